/- The walk of BeagleFails, part 1. Short names. -/
import Derived.WalkKit
import Derived.WalkLawsBesides
import Derived.WalkSpells
import Derived.BigQuiet
import Derived.Deep.QuietTactic
import Derived.Deep.RegionHeld3
import Derived.Lib.Hide
import Derived.Outline
namespace Go.Proofs.YtjfkmoinldlmaaaGreat
section
open Go.RowKit
theorem aa{p:Prop}(h:p):Hid p:=h
theorem ac{n:Nat}:n<=n:=Nat.le_refl n
theorem ae{B:Nat}{w:World}:Below B w w:=Below.refl B w
universe u v
theorem ag{α:Type u}{l:List α}{i:Nat}{a:α}:l.toArray.setIfInBounds i a=(l.set i a).toArray:=List.setIfInBounds_toArray ..
theorem ai{α:Type u}{l:List α}{a b:α}:(b::l).set 0 a=a::l:=rfl
theorem aj{α:Type u}{l:List α}{i:Nat}{a b:α}:(b::l).set (i+1) a=b::l.set i a:=rfl
theorem ak{α:Type u}{l:List α}{i:Nat}:l.toArray[i]?=l[i]?:=List.getElem?_toArray
theorem am{α:Type u}{a:α}{l:List α}:(a::l)[0]?=some a:=rfl
theorem au{α:Type u}{a:α}{l:List α}{i:Nat}:(a::l)[i+1]?=l[i]?:=rfl
theorem aw:∀(B:Nat)(w:World),Below B w w:=@Below.refl
theorem ax:∀{α:Type u}[BEq α][LawfulBEq α]{a b:α},(a==b)=false↔a≠b:=@beq_eq_false_iff_ne
theorem ay:∀{P:Program}{fn:Func}{R:Ending->World->Prop}{a:Act}{w:World}{v:Value},Sem.run P (results fn a.tmps) w=Result.ok v w->a.defers=[]->R (Ending.returned v) w->bodyPost P fn R Exit.ret a w:=@bodyPost_ret
theorem az:∀{n m k:Nat},n<m->m<=k->n<k:=@Nat.lt_of_lt_of_le
theorem ba:∀{n m k:Nat},n<=m->m<=k->n<=k:=@Nat.le_trans
theorem bd:∀{α:Type u}{as bs:List α},(as++bs).length=as.length+bs.length:=@List.length_append
theorem bg:∀(w:World)(o:Obj),(w.alloc o).heap.size=w.heap.size+1:=@World.size_alloc
theorem bh:∀(w:World)(a b:Addr)(v:Value),a≠b->(w.setCell a v).cell? b=w.cell? b:=@World.cell?_setCell_other
theorem bj:∀(w:World)(base:Nat)(e:TypeId)(size:Nat),w.ownsRow base e size (Value.slice none 0 0) 0 []:=@World.ownsRow_nil
theorem bs:∀{α:Type u}{l:List α}{i:Nat}(h:i<l.length),l[i]?=some l[i]:=@List.getElem?_eq_getElem
theorem bv:∀{p:Prop}[Decidable p],¬p->decide p=false:=@decide_eq_false
theorem bz:∀{α:Type u}{a:α}{as:List α},(a::as).length=as.length+1:=@List.length_cons
theorem cd:∀{α:Type u}{a b:α},a∈[b]↔a=b:=@List.mem_singleton
theorem ce:∀(a b:Bool),((a&&b)=true)=(a=true/\b=true):=@Bool.and_eq_true
theorem cg:∀{p:Prop}[Decidable p],(decide p=true)=p:=@decide_eq_true_eq
theorem ci:∀(n:Int),IntKind.i64.wrap n=(n+9223372036854775808)%18446744073709551616-9223372036854775808:=@IntKind.wrap_i64
theorem cj:∀{P:Program}{c:Code}{Q:Exit->Act->World->Prop}{n:Nat}{a:Act}{w:World},Code.rounds P c Q (n+1) a w=Code.wp P c (Exit.then (Code.rounds P c Q n) Q) a w:=@rounds_succ
theorem cu:∀{B:Nat}{a w:World},Below B a w->∀(n:Nat),Below B a (w.drewN n):=@below_drewN
theorem cw:∀{p:Prop}[Decidable p],p->decide p=true:=@decide_eq_true
theorem cx:∀(n:Nat),0<=n:=@Nat.zero_le
theorem cy:∀{α:Type u}{i:Nat}{a:α}{l:List α},l[i]?=some a↔∃(h:i<l.length),l[i]=a:=@List.getElem?_eq_some_iff
theorem cz:∀{α:Type u}{b:α}{l:List α}{a:α},a∈b::l↔a=b\/a∈l:=@List.mem_cons
theorem da:∀{α:Type u}{i:Nat}{l:List α}(h:i<l.length),List.take (i+1) l=List.take i l++[l[i]]:=@List.take_succ_eq_append_getElem
theorem db:∀{α:Type u}(y:α){a:α}{l:List α},a∈l->a∈y::l:=@List.mem_cons_of_mem
theorem dc:∀{α:Type u}(as bs cs:List α),as++bs++cs=as++(bs++cs):=@List.append_assoc
theorem de:∀(w:World)(a b:Addr)(v:Value),(w.setCell a v).frozen? b=w.frozen? b:=@World.frozen?_setCell
theorem df:∀{α:Type u}{i:Nat}{b:α}{xs:Array α},xs[i]?=some b↔∃(h:i<xs.size),xs[i]=b:=@Array.getElem?_eq_some_iff
theorem dg:∀(n:Nat),0+n=n:=@Nat.zero_add
theorem dh:∀{α:Type u}(as:List α),as++[]=as:=@List.append_nil
theorem di:∀(w:World)(a:Addr)(v:Value),(w.cell? a).isSome=true->(w.setCell a v).cell? a=some v:=@World.cell?_setCell_same'
theorem dj:∀{n m:Nat},n<m->n<=m:=@Nat.le_of_lt
theorem dk:∀{α:Type u}{a:α}{as bs:List α},a::as++bs=a::(as++bs):=@List.cons_append
theorem dm:∀{α:Type u}{l:List α}{i:Nat}{a:α},l[i]?=some a->a∈l:=@List.mem_of_getElem?
theorem dp:∀{α:Type u}{a:α}{l:List α},a∈a::l:=@List.mem_cons_self
theorem dq:∀(n m:Nat),n*m=m*n:=@Nat.mul_comm
theorem dr:∀{α:Type u}{l:List α},List.take l.length l=l:=@List.take_length
theorem dt:∀(n:Nat),n<=n.succ:=@Nat.le_succ
theorem du:∀{P:Program}{Q:Exit->Act->World->Prop}{a:Act}{w:World}{c:Code}(n:Nat),Code.rounds P c Q n a w->Code.wp P c.loop Q a w:=@wp_loop_rounds
theorem dw:∀{p:Prop}{_:Decidable p},decide p=false↔¬p:=@decide_eq_false_iff_not
theorem dy:∀(n m k:Nat),n+m+k=n+(m+k):=@Nat.add_assoc
theorem d9:∀{α:Type u}(p:α->Bool)(l:List α),(List.filter p l).length<=l.length:=@List.length_filter_le
theorem ea:∀{a b:Nat},a<b->a%b=a:=@Nat.mod_eq_of_lt
theorem eb:∀{α:Type u}{l:List α}{i:Nat},l.length<=i->l[i]?=none:=@List.getElem?_eq_none
theorem ed:∀(n:Nat),n=0\/n>0:=@Nat.eq_zero_or_pos
theorem ef:∀{α:Type u}{l₁ l₂:List α}{i:Nat},l₁.length<=i->(l₁++l₂)[i]?=l₂[i-l₁.length]?:=@List.getElem?_append_right
theorem ei:∀{α:Type u}{l:List α},l.length=0↔l=[]:=@List.length_eq_zero_iff
theorem ek:∀{α:Type u}{l₁ l₂:List α}{i:Nat},i<l₁.length->(l₁++l₂)[i]?=l₁[i]?:=@List.getElem?_append_left
theorem ep:∀{α:Type u}{β:Type v}{f:α->β}{l₁ l₂:List α},List.map f (l₁++l₂)=List.map f l₁++List.map f l₂:=@List.map_append
theorem eu:∀{a:Int},0<=a->∃(n:Nat),a=↑n:=@Int.eq_ofNat_of_zero_le
theorem ev:∀{α:Type u}{i:Nat}{l:List α}(h:i<l.length),List.drop i l=l[i]::List.drop (i+1) l:=@List.drop_eq_getElem_cons
end
end Go.Proofs.YtjfkmoinldlmaaaGreat
