/- The walk of BeagleFails, part 12. A map from classes to bools that a call makes: look-ups and stores at the operation. A map from ways to functions that a call makes: look-ups and stores at the operation. -/
import Derived.Test.YtjfkmoinldlmaaaGreatFa07
import Derived.Test.YtjfkmoinldlmaaaGreatFa09
import Derived.Maps.Own
import Derived.Maps.OwnOps
import Derived.Maps.Views
import Derived.WideKeyArr
import Derived.DeepKeys4
namespace Go.Proofs.YtjfkmoinldlmaaaGreat
open Go.Proofs.Tryz
section
set_option maxRecDepth 100000
open Go.RowKit Go.Maps
theorem arr26:WideMaps.ArrKey prog 100 46 4:=⟨underlying100,by kernel_rfl,aks,aep⟩
theorem akf:Keyed prog 100:=Keyed.of_law arr26.law
theorem key26(S:Nat->Bool):∃kl,keyOf prog 100 (cv S)=some kl:=by
 refine⟨.string (keyBytes [.int .u64 (wd S 0:Nat),.int .u64 (wd S 1:Nat),.int .u64 (wd S 2:Nat),.int .u64 (wd S 3:Nat)]),?_⟩;have hk:prog.keyType 100=true:=by kernel_rfl
 obtain⟨m,hm⟩:∃m,prog.types.size=m+1:=⟨prog.types.size-1,by kernel_rfl⟩;have hw:∀i,(Lit.int .u64 (wd S i:Nat)).wf=true:=fun i=>by
  have:=sq S i;exact WalkArith.wf_u64 ⟨by omega,by omega⟩
 have hl:∀(d i:Nat),prog.keyLits (d+1) 46 [.int .u64 (wd S i:Nat)]=some [.int .u64 (wd S i:Nat)]:=fun d i=>by
  unfold Program.keyLits;simp[underlying46,hw i]
 unfold keyOf;simp only[underlying100];rw[if_pos (by simp[hk,Value.formed,underlying100,aep]),hm];unfold Program.keyLits;simp only[underlying100,Value.cells,aks,aep];rw[if_pos (by simp)];simp[List.range_succ,hl]
def ng(w:World)(b n:Nat)(p:(Nat->Bool)->Bool):Prop:=
 ∃D:DataW Unit,w.ownsMap prog 100 (plainElem prog 4) b n D/\IsMap D/\∀S kl,keyOf prog 100 (cv S)=some kl->D.atKey kl (.lit (.bool false))=.lit (.bool (p S))
theorem ng.made(w:World):ng (w.alloc (.map #[] 0)) w.heap.size 0 fun _=>false:=
 ⟨.map [],World.ownsMap_made _ _ _ _,⟨[],rfl⟩,fun _ _ _=>rfl⟩
theorem ng.kept{w w':World}{b n:Nat}{p:(Nat->Bool)->Bool}{row:Option Nat}(h:ng w b n p)(hg:w.grownBy w' row)(hne:some b≠row):ng w' b n p:=by
 obtain⟨D,h1,h2,h3⟩:=h;exact⟨D,h1.kept hg hne,h2,h3⟩
theorem ng.lt{w:World}{b n:Nat}{p:(Nat->Bool)->Bool}(h:ng w b n p):b<w.heap.size:=by
 obtain⟨D,h1,_⟩:=h;exact h1.lt
theorem ng.below{w w':World}{b n:Nat}{p:(Nat->Bool)->Bool}(h:ng w b n p)(hb:Below w.heap.size w w'):ng w' b n p:=h.kept (gn hb none) (by simp)
theorem ng.alloc{w:World}{b n:Nat}{p:(Nat->Bool)->Bool}(h:ng w b n p)(o:Obj):ng (w.alloc o) b n p:=h.below (ae.alloc ac o)
theorem fc.grown{w w':World}{B:Nat}{S:Nat->Bool}{row:Option Nat}(h:fc w B S)(hg:w.grownBy w' row)(hne:some B≠row):fc w' B S:=by
 obtain⟨⟨c0,c1,c2,c3⟩,⟨f0,f1,f2,f3⟩,hl⟩:=h;have e:=hg.block B hl hne;have hc:=fun o=>World.cell?_of_block (a:=⟨B,o,none⟩) e
 have hf:=fun o=>World.frozen?_of_block (a:=⟨B,o,none⟩) e
 exact⟨⟨(hc 0).trans c0,(hc 1).trans c1,(hc 2).trans c2,(hc 3).trans c3⟩,⟨(hf 0).trans f0,(hf 1).trans f1,(hf 2).trans f2,(hf 3).trans f3⟩,az hl hg.size⟩
theorem ng.of_block{w w':World}{b n:Nat}{p:(Nat->Bool)->Bool}(h:ng w b n p)(e:w'.heap[b]?=w.heap[b]?):ng w' b n p:=by
 obtain⟨D,⟨es,c,hb,F,hs,hD⟩,h2,h3⟩:=h;exact⟨D,⟨es,c,e.trans hb,F,hs,hD⟩,h2,h3⟩
theorem ng.congr{w:World}{b n m:Nat}{p q:(Nat->Bool)->Bool}(h:ng w b n p)(hm:n<=m)(he:∀S,p S=q S):ng w b m q:=by
 obtain⟨D,h1,h2,h3⟩:=h;exact⟨D,h1.mono hm,h2,fun S kl hk=>by rw[h3 S kl hk,he]⟩
theorem vu{v:Value}{x:Bool}{ps:List MemPlace}(h:plainElem (H:=Unit) prog 4 v=some (.lit (.bool x),ps)):v=.bool x:=by
 unfold plainElem at h;rw[underlying4]at h;cases v<;>simp at h;obtain⟨rfl,_⟩:=h;rfl
theorem zero4(w:World):(zeroValue 4).run prog w=.ok (.bool false) w:=by kernel_rfl
theorem yn(w:World){ops:Array Oper}{rest:List Oper}{o:Oper}{a:Act}{Q:Exit->Act->World->Prop}(hg:o.guard=none)(m x:Operand)(hop:o.op=Op.lookup 259 m x false)
 {b n:Nat} {p:(Nat->Bool)->Bool} (hm:a.eval m=.map (some b)) (hM:ng w b n p) (S:Nat->Bool) (hx:a.eval x=cv S) (r:Bool) (hr:p S=r) (hK:wpList prog ops Q rest (a.put o.dst (.bool r)) w):
 wpList prog ops Q (o::rest) a w:=by
 subst hr;refine wpList_plain hg fun K' hK'=>?_
 obtain⟨D,h1,h2,h3⟩:=hM;obtain⟨kl,hkl⟩:=key26 S;obtain⟨v,ps,hrun,hv⟩:=h1.lookup akf underlying259 (zero4 w) (plainElem_bool underlying4 false) hkl;rw[h3 S kl hkl]at hv;obtain rfl:=vu hv;unfold Oper.wp;simp only[execOp,hop,hm,hx,hrun,Result.andThen,Sem.run_bind,Sem.run_pure];exact hK' _ _ hK
theorem ar6{S T:Nat->Bool}:cv S=cv T↔fj S T=true:=by
 rw[xx];constructor
 ·intro h
  simp only[cv,Value.agg.injEq,Array.mk.injEq,List.cons.injEq,Value.int.injEq,true_and,and_true,Int.natCast_inj]at h;exact h
 ·rintro⟨h0,h1,h2,h3⟩
  unfold cv;rw[h0,h1,h2,h3]
theorem aag(w:World){ops:Array Oper}{rest:List Oper}{o:Oper}{a:Act}{Q:Exit->Act->World->Prop}(hg:o.guard=none)(m x v:Operand)(hop:o.op=Op.mapUpdate 259 m x v\/o.op=Op.insert 259 m x v)
 {b n:Nat} {p:(Nat->Bool)->Bool} (hm:a.eval m=.map (some b)) (hM:ng w b n p) (hn:n<maxLen) (S:Nat->Bool) (hx:a.eval x=cv S) (hv:a.eval v=.bool true)
 (hK:∀w',ng w' b (n+1) (fun T=>p T||fj S T)->w.grownBy w' (some b)->wpList prog ops Q rest (a.put o.dst undef) w'):
 wpList prog ops Q (o::rest) a w:=by
 refine wpList_plain hg fun K' hK'=>?_
 obtain⟨D,h1,h2,h3⟩:=hM;obtain⟨kl,hkl⟩:=key26 S;obtain⟨w',hrun,r1,r2⟩:=h1.update akf underlying259 hn hkl (plainElem_bool underlying4 true);have hfin:ng w' b (n+1) (fun T=>p T||fj S T):=by
  refine⟨_,r1,h2.put kl _,fun T kl' hk'=>?_⟩;by_cases he:fj S T=true
  ·have e:cv S=cv T:=ar6.2 he
   rw[<-e,hkl]at hk';cases hk';rw[atKey_put_same h2 (akf.key hkl)];show _=DataW.lit (.bool (p T||fj S T));rw[he,Bool.or_true]
  ·have hne:kl'≠kl:=fun e=>he (ar6.1 (akf.inj hkl (e▸hk')))
   rw[atKey_put_other hne,h3 T kl' hk'];simp only[Bool.not_eq_true]at he;show _=DataW.lit (.bool (p T||fj S T));rw[he,Bool.or_false]
 unfold Oper.wp;rcases hop with hop|hop
 all_goals
  simp only[execOp,hop,hm,hx,hv,hrun,Result.andThen,Sem.run_bind,Sem.run_pure];exact hK' _ _ (hK w' hfin r2)
end
section
set_option maxRecDepth 100000
open Go.RowKit Go.Maps
theorem law3:Keyed prog 3:=int_keyed underlying3
theorem key3(x:Int)(h1:1<=x)(h5:x<=5):keyOf prog 3 (.int .i64 x)=some (.int .i64 x):=by
 have hw:(Lit.int .i64 x).wf=true:=WalkArith.wf_i64 ⟨by omega,by omega⟩;unfold keyOf;simp only[underlying3];simp[underlying3,hw,mapKey]
theorem zero97(w:World):(zeroValue 250).run prog w=.ok .nilFunc w:=by kernel_rfl
def asIs(v:Value):Option (DataW Value×List MemPlace):=some (.held v,[])
def sx(w:World)(b n:Nat)(p:Int->Value):Prop:=
 ∃D:DataW Value,w.ownsMap prog 3 asIs b n D/\IsMap D/\∀x,1<=x->x<=5->D.atKey (.int .i64 x) (.held .nilFunc)=.held (p x)
theorem sx.made(w:World):sx (w.alloc (.map #[] 0)) w.heap.size 0 fun _=>.nilFunc:=
 ⟨.map [],World.ownsMap_made _ _ _ _,⟨[],rfl⟩,fun _ _ _=>rfl⟩
theorem sx.kept{w w':World}{b n:Nat}{p:Int->Value}{row:Option Nat}(h:sx w b n p)(hg:w.grownBy w' row)(hne:some b≠row):sx w' b n p:=by
 obtain⟨D,h1,h2,h3⟩:=h;exact⟨D,h1.kept hg hne,h2,h3⟩
theorem sx.below{w w':World}{b n:Nat}{p:Int->Value}(h:sx w b n p)(hb:Below w.heap.size w w'):sx w' b n p:=h.kept (gn hb none) (by simp)
theorem sx.lt{w:World}{b n:Nat}{p:Int->Value}(h:sx w b n p):b<w.heap.size:=by
 obtain⟨D,h1,_⟩:=h;exact h1.lt
theorem sx.look{w:World}{b n:Nat}{p:Int->Value}(h:sx w b n p)(x:Int)(h1:1<=x)(h5:x<=5):(Instr.lookup 272 (.map (some b)) (.int .i64 x) false).run prog w=.ok (p x) w:=by
 obtain⟨D,g1,g2,g3⟩:=h;obtain⟨v,ps,hrun,hv⟩:=g1.lookup law3 underlying272 (zero97 w) (zd:=.held .nilFunc) (zp:=[]) rfl (key3 x h1 h5);rw[g3 x h1 h5]at hv;obtain rfl:v=p x:=by
  unfold asIs at hv;simp at hv;exact hv.1
 exact hrun
theorem sx.store{w:World}{b n:Nat}{p:Int->Value}(h:sx w b n p)(hn:n<maxLen)(x:Int)(h1:1<=x)(h5:x<=5)(F:Value):∃w',(Instr.mapUpdate 272 (.map (some b)) (.int .i64 x) F).run prog w=.ok () w'/\sx w' b (n+1) (fun y=>if y=x then F else p y)/\w.grownBy w' (some b):=by
 obtain⟨D,g1,g2,g3⟩:=h;obtain⟨w',hrun,r1,r2⟩:=g1.update law3 underlying272 hn (key3 x h1 h5) (d:=.held F) (ps:=[]) rfl;refine⟨w',hrun,⟨_,r1,g2.put _ _,fun y y1 y5=>?_⟩,r2⟩;by_cases he:y=x
 ·subst he
  rw[atKey_put_same g2 (law3.key (key3 y y1 y5))];show _=DataW.held (if y=y then F else p y);rw[if_pos rfl]
 ·have hne:(Lit.int .i64 y)≠(Lit.int .i64 x):=fun e=>he (by cases e;rfl)
  rw[atKey_put_other hne,g3 y y1 y5];show _=DataW.held (if y=x then F else p y);rw[if_neg he]
theorem ny(w:World){ops:Array Oper}{rest:List Oper}{o:Oper}{a:Act}{Q:Exit->Act->World->Prop}(hg:o.guard=none)(m x v:Operand)(hop:o.op=Op.mapUpdate 272 m x v\/o.op=Op.insert 272 m x v)
 {b n:Nat} {p:Int->Value} (hm:a.eval m=.map (some b)) (hM:sx w b n p) (hn:n<maxLen) (y:Int) (h1:1<=y) (h5:y<=5) (F:Value) (hx:a.eval x=.int .i64 y) (hv:a.eval v=F)
 (hK:∀w',sx w' b (n+1) (fun z=>if z=y then F else p z)->w.grownBy w' (some b)->wpList prog ops Q rest (a.put o.dst undef) w'):
 wpList prog ops Q (o::rest) a w:=by
 refine wpList_plain hg fun K' hK'=>?_
 obtain⟨w',hrun,r1,r2⟩:=hM.store hn y h1 h5 F;unfold Oper.wp;rcases hop with hop|hop
 all_goals
  simp only[execOp,hop,hm,hx,hv,hrun,Result.andThen,Sem.run_bind,Sem.run_pure];exact hK' _ _ (hK w' r1 r2)
end
end Go.Proofs.YtjfkmoinldlmaaaGreat
