/- The walk of BeagleFails, part 24. Walks of slices.Clone; clear at classes. Blocks of classes; walks of slices.IndexFunc and slices.DeleteFunc at classes. Walks of slices.DeleteFunc at classes. Walk of split.Parts. -/
import Derived.Test.YtjfkmoinldlmaaaGreatFa23
import Derived.Test.YtjfkmoinldlmaaaGreatFa15
import Derived.Test.YtjfkmoinldlmaaaGreatFa11
import Derived.Laws.IdiomCopy
import Derived.Lib.SliceRun
namespace Go.Proofs.YtjfkmoinldlmaaaGreat
open Go.Proofs.Tryz
section
set_option maxRecDepth 100000
set_option maxHeartbeats 4000000
open Go.RowKit Go.Shelf
theorem j2:mi 29 81 4 48:=lj (z:=.agg #[.int .i64 0,.int .i64 0,.slice none 0 0,.int .i64 0]) underlying29 (by kernel_rfl) rfl (by decide)
theorem ai5:mi 84 24 1 24:=lj (z:=.slice none 0 0) underlying84 (by kernel_rfl) rfl (by decide)
theorem zy{T E:TypeId}(h:prog.underlying T=some (.slice E))(a:Option Addr)(n c:Nat)(w:World):(binOp .eql T (.slice a n c) (.slice none 0 0)).run prog w=.ok (.bool a.isNone) w:=by
 exact Lib.run_eql_slice_nil w T E a n c 0 0 h
theorem aem(ad:Option Addr)(n cap:Nat)(xs:List Value)(hn:n<=100000)(hl:xs.length=n*4)(h1:∀u∈xs,u.oneCell'=true)(w:World)
 (hx:n=0\/∃b o,ad=some ⟨b,o,none⟩/\b<w.heap.size/\∀(j:Nat)u,xs[j]?=some u->w.cell? ⟨b,o+j,none⟩=some u):
 Calls prog 161 #[.slice ad n cap] w fun e w'=>∃v,e=.returned v/\w'.ownsRow w.heap.size 100 4 v n xs/\Below w.heap.size w w':=by
 have hq:=zy underlying50 ad n cap;cases ad with
 |none=>
  obtain rfl:n=0:=by rcases hx with h|⟨b,o,h,_⟩;exact h;cases h
  obtain rfl:xs=[]:=ei.1 (by simpa using hl);simp only[Option.isNone_none]at hq;go_enter func161,ntmps161;go_wp2_with fail
  go_ret;exact⟨_,rfl,bj _ _ _ _,ae⟩
 |some a=>
  simp only[Option.isNone_some]at hq;have HX:Hid (∀(j:Nat)u,xs[j]?=some u->(w.alloc (.cells #[] 100)).cell? (a.add j)=some u):=aa fun j u hj=>by
   rcases hx with h|⟨b,o,h,hb,hc⟩
   ·subst h
    obtain rfl:xs=[]:=ei.1 (by simpa using hl);simp at hj
   ·cases h
    rw[pu rfl];exact(((aw w.heap.size w).alloc ac (.cells #[] 100)).cell (p:=⟨b,o+j,none⟩) hb).trans (hc j u hj)
  have HL:=aa hl;have hown:(w.alloc (.cells #[] 100)).ownsRow w.heap.size 100 4 (.slice (some ⟨w.heap.size,0,none⟩) 0 0) 0 []:=⟨rfl,.inr ⟨w.heap.size,0,#[],rfl,ac,World.alloc_heap_new w _,ac,cx _,rfl,rfl⟩⟩;have hA:Below w.heap.size w (w.alloc (.cells #[] 100)):=ae.alloc ac _;clear hx hl;obtain⟨i,z,ht,hi,hz,hsize,hby,hzs,hsz⟩:=ot;go_enter func161,ntmps161;go_wp2_with(at_builtin;refine wpList_append_own _ rfl _ _ 50 rfl w.heap.size 100 i z 4 32 ht hi hz hsize hby hzs hsz (.slice (some ⟨w.heap.size,0,none⟩) 0 0) 0 [] rfl hown a n cap xs rfl HL.out HX.out h1 (by unfold maxLen;omega) (by omega) (by simp) ?_;intro v' w' ho' hg' hn')
  go_ret;refine⟨_,rfl,by simpa using ho',?_⟩;exact hA.trans (ib hg' (by simp) fun k hk=>by cases hk;exact ac)
theorem za(ad:Option Addr)(n cap:Nat)(xs:List Value)(hn:n<=100000)(hl:xs.length=n*1)(h1:∀u∈xs,u.oneCell'=true)(w:World)
 (hx:n=0\/∃b o,ad=some ⟨b,o,none⟩/\b<w.heap.size/\∀(j:Nat)u,xs[j]?=some u->w.cell? ⟨b,o+j,none⟩=some u):
 Calls prog 59 #[.slice ad n cap] w fun e w'=>∃v,e=.returned v/\w'.ownsRow w.heap.size 3 1 v n xs/\Below w.heap.size w w':=by
 have hq:=zy underlying24 ad n cap;cases ad with
 |none=>
  obtain rfl:n=0:=by rcases hx with h|⟨b,o,h,_⟩;exact h;cases h
  obtain rfl:xs=[]:=ei.1 (by simpa using hl);simp only[Option.isNone_none]at hq;go_enter func59,ntmps59;go_wp2_with fail
  go_ret;exact⟨_,rfl,bj _ _ _ _,ae⟩
 |some a=>
  simp only[Option.isNone_some]at hq;have HX:Hid (∀(j:Nat)u,xs[j]?=some u->(w.alloc (.cells #[] 3)).cell? (a.add j)=some u):=aa fun j u hj=>by
   rcases hx with h|⟨b,o,h,hb,hc⟩
   ·subst h
    obtain rfl:xs=[]:=ei.1 (by simpa using hl);simp at hj
   ·cases h
    rw[pu rfl];exact(((aw w.heap.size w).alloc ac (.cells #[] 3)).cell (p:=⟨b,o+j,none⟩) hb).trans (hc j u hj)
  have HL:=aa hl;have hown:(w.alloc (.cells #[] 3)).ownsRow w.heap.size 3 1 (.slice (some ⟨w.heap.size,0,none⟩) 0 0) 0 []:=⟨rfl,.inr ⟨w.heap.size,0,#[],rfl,ac,World.alloc_heap_new w _,ac,cx _,rfl,rfl⟩⟩;have hA:Below w.heap.size w (w.alloc (.cells #[] 3)):=ae.alloc ac _;clear hx hl;obtain⟨i,z,ht,hi,hz,hsize,hby,hzs,hsz⟩:=iv;go_enter func59,ntmps59;go_wp2_with(at_builtin;refine wpList_append_own _ rfl _ _ 24 rfl w.heap.size 3 i z 1 8 ht hi hz hsize hby hzs hsz (.slice (some ⟨w.heap.size,0,none⟩) 0 0) 0 [] rfl hown a n cap xs rfl HL.out HX.out h1 (by unfold maxLen;omega) (by omega) (by simp) ?_;intro v' w' ho' hg' hn')
  go_ret;refine⟨_,rfl,by simpa using ho',?_⟩;exact hA.trans (ib hg' (by simp) fun k hk=>by cases hk;exact ac)
theorem aeo(ad:Option Addr)(n cap:Nat)(xs:List Value)(hn:n<=100000)(hl:xs.length=n*4)(h1:∀u∈xs,u.oneCell'=true)(w:World)
 (hx:n=0\/∃b o,ad=some ⟨b,o,none⟩/\b<w.heap.size/\∀(j:Nat)u,xs[j]?=some u->w.cell? ⟨b,o+j,none⟩=some u):
 Calls prog 108 #[.slice ad n cap] w fun e w'=>∃v,e=.returned v/\w'.ownsRow w.heap.size 81 4 v n xs/\Below w.heap.size w w':=by
 have hq:=zy underlying29 ad n cap;cases ad with
 |none=>
  obtain rfl:n=0:=by rcases hx with h|⟨b,o,h,_⟩;exact h;cases h
  obtain rfl:xs=[]:=ei.1 (by simpa using hl);simp only[Option.isNone_none]at hq;go_enter func108,ntmps108;go_wp2_with fail
  go_ret;exact⟨_,rfl,bj _ _ _ _,ae⟩
 |some a=>
  simp only[Option.isNone_some]at hq;have HX:Hid (∀(j:Nat)u,xs[j]?=some u->(w.alloc (.cells #[] 81)).cell? (a.add j)=some u):=aa fun j u hj=>by
   rcases hx with h|⟨b,o,h,hb,hc⟩
   ·subst h
    obtain rfl:xs=[]:=ei.1 (by simpa using hl);simp at hj
   ·cases h
    rw[pu rfl];exact(((aw w.heap.size w).alloc ac (.cells #[] 81)).cell (p:=⟨b,o+j,none⟩) hb).trans (hc j u hj)
  have HL:=aa hl;have hown:(w.alloc (.cells #[] 81)).ownsRow w.heap.size 81 4 (.slice (some ⟨w.heap.size,0,none⟩) 0 0) 0 []:=⟨rfl,.inr ⟨w.heap.size,0,#[],rfl,ac,World.alloc_heap_new w _,ac,cx _,rfl,rfl⟩⟩;have hA:Below w.heap.size w (w.alloc (.cells #[] 81)):=ae.alloc ac _;clear hx hl;obtain⟨i,z,ht,hi,hz,hsize,hby,hzs,hsz⟩:=j2;go_enter func108,ntmps108;go_wp2_with(at_builtin;refine wpList_append_own _ rfl _ _ 29 rfl w.heap.size 81 i z 4 48 ht hi hz hsize hby hzs hsz (.slice (some ⟨w.heap.size,0,none⟩) 0 0) 0 [] rfl hown a n cap xs rfl HL.out HX.out h1 (by unfold maxLen;omega) (by omega) (by simp) ?_;intro v' w' ho' hg' hn')
  go_ret;refine⟨_,rfl,by simpa using ho',?_⟩;exact hA.trans (ib hg' (by simp) fun k hk=>by cases hk;exact ac)
theorem aen(ad:Option Addr)(n cap:Nat)(xs:List Value)(hn:n<=100000)(hl:xs.length=n*1)(h1:∀u∈xs,u.oneCell'=true)(w:World)
 (hx:n=0\/∃b o,ad=some ⟨b,o,none⟩/\b<w.heap.size/\∀(j:Nat)u,xs[j]?=some u->w.cell? ⟨b,o+j,none⟩=some u):
 Calls prog 120 #[.slice ad n cap] w fun e w'=>∃v,e=.returned v/\w'.ownsRow w.heap.size 24 1 v n xs/\Below w.heap.size w w':=by
 have hq:=zy underlying84 ad n cap;cases ad with
 |none=>
  obtain rfl:n=0:=by rcases hx with h|⟨b,o,h,_⟩;exact h;cases h
  obtain rfl:xs=[]:=ei.1 (by simpa using hl);simp only[Option.isNone_none]at hq;go_enter func120,ntmps120;go_wp2_with fail
  go_ret;exact⟨_,rfl,bj _ _ _ _,ae⟩
 |some a=>
  simp only[Option.isNone_some]at hq;have HX:Hid (∀(j:Nat)u,xs[j]?=some u->(w.alloc (.cells #[] 24)).cell? (a.add j)=some u):=aa fun j u hj=>by
   rcases hx with h|⟨b,o,h,hb,hc⟩
   ·subst h
    obtain rfl:xs=[]:=ei.1 (by simpa using hl);simp at hj
   ·cases h
    rw[pu rfl];exact(((aw w.heap.size w).alloc ac (.cells #[] 24)).cell (p:=⟨b,o+j,none⟩) hb).trans (hc j u hj)
  have HL:=aa hl;have hown:(w.alloc (.cells #[] 24)).ownsRow w.heap.size 24 1 (.slice (some ⟨w.heap.size,0,none⟩) 0 0) 0 []:=⟨rfl,.inr ⟨w.heap.size,0,#[],rfl,ac,World.alloc_heap_new w _,ac,cx _,rfl,rfl⟩⟩;have hA:Below w.heap.size w (w.alloc (.cells #[] 24)):=ae.alloc ac _;clear hx hl;obtain⟨i,z,ht,hi,hz,hsize,hby,hzs,hsz⟩:=ai5;go_enter func120,ntmps120;go_wp2_with(at_builtin;refine wpList_append_own _ rfl _ _ 84 rfl w.heap.size 24 i z 1 24 ht hi hz hsize hby hzs hsz (.slice (some ⟨w.heap.size,0,none⟩) 0 0) 0 [] rfl hown a n cap xs rfl HL.out HX.out h1 (by unfold maxLen;omega) (by omega) (by simp) ?_;intro v' w' ho' hg' hn')
  go_ret;refine⟨_,rfl,by simpa using ho',?_⟩;exact hA.trans (ib hg' (by simp) fun k hk=>by cases hk;exact ac)
end
section
set_option maxRecDepth 100000
set_option maxHeartbeats 4000000
open Go.RowKit Go.Shelf
structure uf(w:World)(g n:Nat)(C:Nat->Nat->Bool):Prop where
 cells:∀j,j<n->w.cell? ⟨g,j*4,none⟩=some (.int .u64 (wd (C j) 0:Nat))/\w.cell? ⟨g,j*4+1,none⟩=some (.int .u64 (wd (C j) 1:Nat))/\w.cell? ⟨g,j*4+2,none⟩=some (.int .u64 (wd (C j) 2:Nat))/\w.cell? ⟨g,j*4+3,none⟩=some (.int .u64 (wd (C j) 3:Nat))
 free:∀o,o<n*4->w.frozen? ⟨g,o,none⟩=false
 lt:g<w.heap.size
theorem uf.below{w w':World}{g n m:Nat}{C:Nat->Nat->Bool}(h:uf w g n C)(hb:Below m w w')(hg:g<m):uf w' g n C where
 cells j hj:=by
  obtain⟨h0,h1,h2,h3⟩:=h.cells j hj;have e:=fun i=>hb.cell (p:=⟨g,i,none⟩) hg
  exact⟨(e _).trans h0,(e _).trans h1,(e _).trans h2,(e _).trans h3⟩
 free o ho:=(hb.frozen (p:=⟨g,o,none⟩) hg).trans (h.free o ho)
 lt:=az h.lt hb.size
theorem uf.congr{w:World}{g n:Nat}{C D:Nat->Nat->Bool}(h:uf w g n C)(he:∀j,j<n->C j=D j):uf w g n D where
 cells j hj:=by rw[<-he j hj];exact h.cells j hj
 free:=h.free
 lt:=h.lt
abbrev set4(w:World)(g p:Nat)(S:Nat->Bool):World:=
 (((w.setCell ⟨g,p,none⟩ (.int .u64 (wd S 0:Nat))).setCell ⟨g,p+1,none⟩ (.int .u64 (wd S 1:Nat))).setCell ⟨g,p+2,none⟩ (.int .u64 (wd S 2:Nat))).setCell ⟨g,p+3,none⟩ (.int .u64 (wd S 3:Nat))
theorem abq{B:Nat}{a w:World}(h:Below B a w){g:Nat}(hg:B<=g)(p:Nat)(S:Nat->Bool):Below B a (set4 w g p S):=
 (((h.setCell (p:=⟨g,p,none⟩) hg _).setCell (p:=⟨g,p+1,none⟩) hg _).setCell (p:=⟨g,p+2,none⟩) hg _).setCell (p:=⟨g,p+3,none⟩) hg _
theorem ab4(w:World)(g p o:Nat)(S:Nat->Bool)(h:o<p\/p+3<o):(set4 w g p S).cell? ⟨g,o,none⟩=w.cell? ⟨g,o,none⟩:=by
 unfold set4;rw[bh _ _ _ _ (by intro e;injection e with h1 h2;omega),bh _ _ _ _ (by intro e;injection e with h1 h2;omega),bh _ _ _ _ (by intro e;injection e with h1 h2;omega),bh _ _ _ _ (by intro e;injection e with h1 h2;omega)]
theorem uf.set{w:World}{g n:Nat}{C:Nat->Nat->Bool}(h:uf w g n C)(i:Nat)(hi:i<n)(S:Nat->Bool):uf (set4 w g (i*4) S) g n (fun j=>if j=i then S else C j)where
 cells j hj:=by
  by_cases he:j=i
  ·subst he
   rw[if_pos rfl];obtain⟨h0,h1,h2,h3⟩:=h.cells j hj;have ne:∀a b:Nat,a≠b->(⟨g,a,none⟩:Addr)≠⟨g,b,none⟩:=fun a b hab e=>by injection e with h1 h2;exact hab h2
   unfold set4;refine⟨?_,?_,?_,?_⟩
   ·rw[bh _ _ _ _ (ne _ _ (by omega)),bh _ _ _ _ (ne _ _ (by omega)),bh _ _ _ _ (ne _ _ (by omega)),di _ _ _ (by rw[h0];rfl)]
   ·rw[bh _ _ _ _ (ne _ _ (by omega)),bh _ _ _ _ (ne _ _ (by omega)),di _ _ _ (by rw[bh _ _ _ _ (ne _ _ (by omega)),h1];rfl)]
   ·rw[bh _ _ _ _ (ne _ _ (by omega)),di _ _ _ (by rw[bh _ _ _ _ (ne _ _ (by omega)),bh _ _ _ _ (ne _ _ (by omega)),h2];rfl)]
   ·rw[di _ _ _ (by rw[bh _ _ _ _ (ne _ _ (by omega)),bh _ _ _ _ (ne _ _ (by omega)),bh _ _ _ _ (ne _ _ (by omega)),h3];rfl)]
  ·rw[if_neg he]
   obtain⟨h0,h1,h2,h3⟩:=h.cells j hj;refine⟨?_,?_,?_,?_⟩<;>(rw[ab4 _ _ _ _ _ (by omega)];assumption)
 free o ho:=by unfold set4;rw[de,de,de,de];exact h.free o ho
 lt:=by unfold set4;simpa using h.lt
theorem kw{B:Nat}{a:World}(b:Nat)(hB:B<=b):∀(vs:List Value)(o:Nat)(w:World),Below B a w->Below B a (w.setCells b o vs)
 |[],_,_,h=>h
 |v::r,o,_,h=>kw b hB r (o+1) _ (h.setCell (p:=⟨b,o,none⟩) hB v)
theorem uf.row{w:World}{g n:Nat}{C:Nat->Nat->Bool}(h:uf w g n C)(m:Nat)(hm:m<=n):fm w (some ⟨g,0,none⟩) m C w.heap.size:=
 .inr ⟨g,0,rfl,h.lt,fun j hj=>by simpa only[dg]using h.cells j (by omega)⟩
theorem act(w:World)(g n i c:Nat)(C:Nat->Nat->Bool)(h:uf w g n C)(hi:i<n):
 ∃zs,∀ty,(Builtin.clear_ #[50] ty #[.slice (some ⟨g,i*4,none⟩) (n-i) c]).run prog w=.ok (.tuple #[]) (w.setCells g (i*4) zs):=by
 have hv:∀w,(zeroValue 100).run prog w=.ok (.agg #[.int .u64 0,.int .u64 0,.int .u64 0,.int .u64 0]) w:=fun w=>by kernel_rfl
 obtain⟨zs,hzs⟩:∃zs,zs=(Builtin.zeroCells (Value.agg #[.int .u64 0,.int .u64 0,.int .u64 0,.int .u64 0]).cells (n-i)).toList:=⟨_,rfl⟩;have hzl:zs.length=(n-i)*4:=by rw[hzs];simp[Builtin.zeroCells,Value.cells]
 have hz1:∀v∈zs,v.oneCell'=true:=by
  intro v hv';rw[hzs]at hv';simp only[Builtin.zeroCells,Array.toList_map,List.mem_map]at hv';obtain⟨a,-,rfl⟩:=hv';have:a%(Value.agg #[.int .u64 0,.int .u64 0,.int .u64 0,.int .u64 0]).cells.size<4:=Nat.mod_lt _ (by decide);generalize a%(Value.agg #[.int .u64 0,.int .u64 0,.int .u64 0,.int .u64 0]).cells.size=b at *;have:b=0\/b=1\/b=2\/b=3:=by omega
  rcases this with rfl|rfl|rfl|rfl<;>rfl
 have hc:∀j,j<zs.length->(w.cell? ⟨g,i*4+0+j,none⟩).isSome=true:=by
  intro j hj;obtain⟨q,r,hr,rfl⟩:∃q r,r<4/\j=q*4+r:=⟨j/4,j%4,Nat.mod_lt _ (by decide),by omega⟩;obtain⟨h0,h1,h2,h3⟩:=h.cells (i+q) (by omega);rw[Nat.add_mul]at h0 h1 h2 h3;have:r=0\/r=1\/r=2\/r=3:=by omega
  rcases this with rfl|rfl|rfl|rfl
  ·rw[show i*4+0+(q*4+0)=i*4+q*4 by omega,h0];rfl
  ·rw[show i*4+0+(q*4+1)=i*4+q*4+1 by omega,h1];rfl
  ·rw[show i*4+0+(q*4+2)=i*4+q*4+2 by omega,h2];rfl
  ·rw[show i*4+0+(q*4+3)=i*4+q*4+3 by omega,h3];rfl
 have hf:∀j,j<zs.length->w.frozen? ⟨g,i*4+0+j,none⟩=false:=fun j hj=>h.free _ (by omega)
 have hst:=run_storeCells_cells (P:=prog) g (i*4) zs 0 w hc hf hz1;simp only[Nat.add_zero]at hst;refine⟨zs,fun ty=>?_⟩;obtain⟨m,hm⟩:∃m,n-i=m+1:=⟨n-i-1,by omega⟩;rw[hm]at hzs⊢;rw[hzs]at hst⊢;simp[Builtin.clear_,run_underlying underlying50,hv,hst]
theorem af6(b1 b2 m:Nat)(p:(Nat->Bool)->Bool)(ad:Option Addr)(n cap:Nat)(C:Nat->Nat->Bool)(hn:n<=1000)(w:World)(hm:m<=w.heap.size)(hR:fm w ad n C w.heap.size)
 (hf:∀S w',Below m w w'->Calls prog 193 #[cv S,.pointer (some ⟨b1,0,none⟩),.pointer (some ⟨b2,0,none⟩)] w' fun e w2=>e=.returned (.bool (p S))/\Below w'.heap.size w' w2):
 Calls prog 220 #[.slice ad n cap,.func (.func 193) #[] #[.pointer (some ⟨b1,0,none⟩),.pointer (some ⟨b2,0,none⟩)]] w fun e w'=>(∃i:Int,e=.returned (.int .i64 i)/\((i= -1/\∀j,j<n->p (C j)=false)\/∃k:Nat,i=k/\k<n/\p (C k)=true/\∀j,j<k->p (C j)=false))/\Below w.heap.size w w':=by
 have HF:=aa hf;have HR:=aa hR;have hnI:(n:Int)<=1000:=by omega
 clear hf hR;go_enter func220,ntmps220;go_wp2_with fail
 go_loopw[8] (fun i wr=>∃q:Nat,q<=n/\i=.int .i64 q/\Hid (∀j,j<q->p (C j)=false)/\Below w.heap.size w wr) (fun i _=>n-(intOf i).toNat)
 case atStart=>exact⟨0,by omega,rfl,aa fun j h=>absurd h (Nat.not_lt_zero j),ae⟩
 case round=>
  obtain⟨q,hq,rfl,hno,hb⟩:=hrel;have Hb:=aa hb;clear hb;by_cases hlt:q<n
  ·have hlti:(q:Int)<n:=by omega
   have hq0:(0:Int)<=q:=by omega
   obtain⟨b,o,rfl,hbm,e0,e1,e2,e3⟩:=(HR.out.below Hb.out ac).at hlt;have hcall:=aa (HF.out (C q) wr (Hb.out.mono hm));cases hp:p (C q)
   ·have HC:=aa (hp▸hcall.out)
    have HP:=aa hp;clear hcall hp;go_wp2_with(go_at_call 193;refine HC.out.mono ?_;rintro e w1⟨rfl,hb1⟩)
    refine⟨⟨q+1,by omega,by go_num,aa fun j hj=>?_,Hb.out.trans (hb1.mono Hb.out.size)⟩,by simp[intOf];omega⟩;by_cases he:j=q
    ·subst he;exact HP.out
    ·exact hno.out j (by omega)
   ·have HC:=aa (hp▸hcall.out)
    have HP:=aa hp;clear hcall hp;go_wp2_with(go_at_call 193;refine HC.out.mono ?_;rintro e w1⟨rfl,hb1⟩)
    go_ret;exact⟨⟨(q:Nat),rfl,.inr ⟨q,rfl,hlt,HP.out,hno.out⟩⟩,Hb.out.trans (hb1.mono Hb.out.size)⟩
  ·obtain rfl:q=n:=by omega
   go_wp2_with fail
   go_ret;exact⟨⟨-1,rfl,.inl ⟨rfl,hno.out⟩⟩,Hb.out⟩
theorem af5(b1 m:Nat)(p:(Nat->Bool)->Bool)(ad:Option Addr)(n cap:Nat)(C:Nat->Nat->Bool)(hn:n<=1000)(w:World)(hm:m<=w.heap.size)(hR:fm w ad n C w.heap.size)
 (hf:∀S w',Below m w w'->Calls prog 194 #[cv S,.pointer (some ⟨b1,0,none⟩)] w' fun e w2=>e=.returned (.bool (p S))/\Below w'.heap.size w' w2):
 Calls prog 220 #[.slice ad n cap,.func (.func 194) #[] #[.pointer (some ⟨b1,0,none⟩)]] w fun e w'=>(∃i:Int,e=.returned (.int .i64 i)/\((i= -1/\∀j,j<n->p (C j)=false)\/∃k:Nat,i=k/\k<n/\p (C k)=true/\∀j,j<k->p (C j)=false))/\Below w.heap.size w w':=by
 have HF:=aa hf;have HR:=aa hR;have hnI:(n:Int)<=1000:=by omega
 clear hf hR;go_enter func220,ntmps220;go_wp2_with fail
 go_loopw[8] (fun i wr=>∃q:Nat,q<=n/\i=.int .i64 q/\Hid (∀j,j<q->p (C j)=false)/\Below w.heap.size w wr) (fun i _=>n-(intOf i).toNat)
 case atStart=>exact⟨0,by omega,rfl,aa fun j h=>absurd h (Nat.not_lt_zero j),ae⟩
 case round=>
  obtain⟨q,hq,rfl,hno,hb⟩:=hrel;have Hb:=aa hb;clear hb;by_cases hlt:q<n
  ·have hlti:(q:Int)<n:=by omega
   have hq0:(0:Int)<=q:=by omega
   obtain⟨b,o,rfl,hbm,e0,e1,e2,e3⟩:=(HR.out.below Hb.out ac).at hlt;have hcall:=aa (HF.out (C q) wr (Hb.out.mono hm));cases hp:p (C q)
   ·have HC:=aa (hp▸hcall.out)
    have HP:=aa hp;clear hcall hp;go_wp2_with(go_at_call 194;refine HC.out.mono ?_;rintro e w1⟨rfl,hb1⟩)
    refine⟨⟨q+1,by omega,by go_num,aa fun j hj=>?_,Hb.out.trans (hb1.mono Hb.out.size)⟩,by simp[intOf];omega⟩;by_cases he:j=q
    ·subst he;exact HP.out
    ·exact hno.out j (by omega)
   ·have HC:=aa (hp▸hcall.out)
    have HP:=aa hp;clear hcall hp;go_wp2_with(go_at_call 194;refine HC.out.mono ?_;rintro e w1⟨rfl,hb1⟩)
    go_ret;exact⟨⟨(q:Nat),rfl,.inr ⟨q,rfl,hlt,HP.out,hno.out⟩⟩,Hb.out.trans (hb1.mono Hb.out.size)⟩
  ·obtain rfl:q=n:=by omega
   go_wp2_with fail
   go_ret;exact⟨⟨-1,rfl,.inl ⟨rfl,hno.out⟩⟩,Hb.out⟩
end
section
set_option maxRecDepth 100000
set_option maxHeartbeats 4000000
open Go.RowKit Go.Shelf
def p6(p:(Nat->Bool)->Bool)(l:List (Nat->Bool))(j:Nat):List (Nat->Bool):=(l.take j).filter fun S=> !p S
theorem tf(p:(Nat->Bool)->Bool)(l:List (Nat->Bool))(j:Nat)(hj:j<l.length):p6 p l (j+1)=if p (gc l j)then p6 p l j else p6 p l j++[gc l j]:=by
 unfold p6;have h:gc l j=l[j]:=by simp[gc,hj]
 rw[da hj,List.filter_append,h];cases hp:p l[j]<;>simp[hp]
theorem vd(p:(Nat->Bool)->Bool)(l:List (Nat->Bool))(j:Nat):(p6 p l j).length<=j:=by
 unfold p6;exact ba (d9 _ _) (List.length_take_le _ _)
theorem aa9(p:(Nat->Bool)->Bool)(l:List (Nat->Bool)):p6 p l l.length=l.filter fun S=> !p S:=by unfold p6;rw[dr]
theorem yz(p:(Nat->Bool)->Bool)(l:List (Nat->Bool))(k:Nat)(hk:k<=l.length)(h:∀j,j<k->p (gc l j)=false):p6 p l k=l.take k:=by
 induction k with
 |zero=>rfl
 |succ k ih=>
  rw[tf p l k (by omega),h k (by omega),ih (by omega) fun j hj=>h j (by omega),da (by omega)];have:gc l k=l[k]:=by simp[gc,show k<l.length by omega]
  simp[this]
theorem akm(l:List (Nat->Bool))(k j:Nat)(hj:j<k):gc (l.take k) j=gc l j:=by
 unfold gc;rw[List.getElem?_take,if_pos hj]
theorem ako(l:List (Nat->Bool))(T:Nat->Bool):gc (l++[T]) l.length=T:=by simp[gc]
theorem ai7(b1 b2 m:Nat)(p:(Nat->Bool)->Bool)(l:List (Nat->Bool))(ad:Option Addr)(cap:Nat)(hl:l.length<=1000)(w:World)(g:Nat)(hmg:m<=g)(hcap:l.length<=cap)(hB:l.length=0\/ad=some ⟨g,0,none⟩/\uf w g l.length (gc l))(hgw:g<=w.heap.size)
 (hf:∀S w',Below m w w'->Calls prog 193 #[cv S,.pointer (some ⟨b1,0,none⟩),.pointer (some ⟨b2,0,none⟩)] w' fun e w2=>e=.returned (.bool (p S))/\Below w'.heap.size w' w2):
 Calls prog 195 #[.slice ad l.length cap,.func (.func 193) #[] #[.pointer (some ⟨b1,0,none⟩),.pointer (some ⟨b2,0,none⟩)]] w fun e w'=>∃ad' cap',e=.returned (.slice ad' (l.filter fun S=> !p S).length cap')/\fm w' ad' (l.filter fun S=> !p S).length (gc (l.filter fun S=> !p S)) w'.heap.size/\Below g w w':=by
 have hR:fm w ad l.length (gc l) w.heap.size:=by
  rcases hB with h|⟨rfl,h⟩
  ·exact .inl h
  ·exact h.row _ ac
 have hix:=aa (af6 b1 b2 m p ad l.length cap (gc l) hl w (by omega) hR hf);have HF:=aa hf;have HLS:=aa fun j hj=>tf p l j hj
 have HLL:=aa fun j=>vd p l j
 rw[<-aa9 p l];have HSM:=aa fun k hk h=>yz p l k hk h
 obtain⟨n,hn⟩:∃n,n=l.length:=⟨_,rfl⟩;rw[<-hn]at hix hB hR hl hcap HLS HSM⊢;have hnI:(n:Int)<=1000:=by omega
 have HN:=aa hn;clear hf hn;generalize hLT:p6 p l=LT at *;clear hLT;go_enter func195,ntmps195;go_wp2_with fail
 refine hix.out.mono ?_;rintro e w1⟨⟨i,rfl,hi⟩,hb1⟩;have Hb1:=aa (hb1.mono hgw);have hz1:=hb1.size;rcases hi with⟨rfl,hno⟩|⟨k,rfl,hkn,hpk,hno⟩
 ·have hall:=HSM.out n (by have:=HN.out;omega) hno
  have hall2:LT n=l:=by rw[hall,HN.out,dr]
  have HR1:=aa ((hR.below hb1 ac).mono hz1);have hnn:(LT n).length=n:=by rw[hall2];exact HN.out.symm
  have HA2:=aa hall2;have HNN:=aa hnn;clear hB hR hb1 hno hall hall2 hnn;go_wp2_with fail
  go_ret;exact⟨ad,cap,by rw[HNN.out];rfl,by rw[HNN.out,HA2.out];exact HR1.out,Hb1.out⟩
 ·have hn0:n≠0:=by omega
  obtain⟨rfl,hBk⟩:=hB.resolve_left hn0;have hgl:=hBk.lt;have HB1:=aa (hBk.below hb1 hgl);have HLk:=HSM.out k (by have:=HN.out;omega) hno;have HLK:Hid (LT (k+1)=l.take k):=aa (by
   have h:=HLS.out k (by omega)
   rw[hpk,if_pos rfl]at h
   rw[h]
   exact HLk)
  have HTL:Hid ((l.take k).length=k):=aa (by rw[List.length_take];have:=HN.out;omega);have hkI:(k:Int)<n:=by omega
  have hk0:((k:Int)== -1)=false:=by rw[ax];omega
  clear hB hBk hR hb1 hno HLk hpk hn0;go_wp2_with fail
  go_loopw[5,6] (fun i j wr=>∃(i' q:Nat)(D:Nat->Nat->Bool),q<=n/\i'<q/\j=.int .i64 q/\i=.int .i64 i'/\(LT q).length=i'/\uf wr g n D/\Hid (∀j,j<i'->D j=gc (LT q) j)/\Hid (∀j,q<=j->j<n->D j=gc l j)/\Below g w wr) (fun _ j _=>n-(intOf j).toNat)
  case atStart=>exact⟨k,k+1,gc l,by omega,by omega,by go_num,rfl,by rw[HLK.out];exact HTL.out,HB1.out,aa fun j hj=>by rw[HLK.out,akm _ _ _ hj],aa fun j _ _=>rfl,Hb1.out⟩
  case round=>
   obtain⟨i,q,D,hq,hiq,rfl,rfl,hlen,hBD,hD1,hD2,hb⟩:=hrel;have HLEN:=aa hlen;have HBD:=aa hBD;have Hb:=aa hb;have hgr:=hBD.lt;clear hlen hBD hb;by_cases hlt:q<n
   ·have hlti:(q:Int)<n:=by omega
    have hq0:(0:Int)<=q:=by omega
    have hi0:(0:Int)<=i:=by omega
    have hini:(i:Int)<n:=by omega
    obtain⟨e0,e1,e2,e3⟩:=HBD.out.cells q hlt;have hDq:=hD2.out q ac hlt;rw[hDq]at e0 e1 e2 e3;have HSX:=aa (HLS.out q (by omega));obtain⟨S,hS⟩:∃S,S=gc l q:=⟨_,rfl⟩;rw[<-hS]at e0 e1 e2 e3 hDq HSX;have HSE:=aa hS;have hA:Below wr.heap.size wr (wr.alloc (.cells #[.int .u64 (wd S 0:Nat),.int .u64 (wd S 1:Nat),.int .u64 (wd S 2:Nat),.int .u64 (wd S 3:Nat)] 100)):=ae.alloc ac _;have hCn:=fc.new wr S;have hcall:=aa (HF.out S (wr.alloc (.cells #[.int .u64 (wd S 0:Nat),.int .u64 (wd S 1:Nat),.int .u64 (wd S 2:Nat),.int .u64 (wd S 3:Nat)] 100)) ((Hb.out.trans (hA.mono (dj hgr))).mono hmg));have HDQ:=aa hDq;clear hS hDq;cases hp:p S
    ·have HC:=aa (hp▸hcall.out)
     have HNX:Hid (LT (q+1)=LT q++[S]):=aa (by rw[HSX.out,hp,if_neg (by decide)]);clear hcall hp;go_wp2_with(go_at_call 193;refine HC.out.mono ?_;rintro e w2⟨rfl,hb2⟩;have hrw2:=hA.trans (hb2.mono hA.size);have hB2:=HBD.out.below hrw2 hgr;obtain⟨d0,d1,d2,d3⟩:=hB2.cells i (by omega);have f0:=hB2.free (i*4) (by omega);have f1:=hB2.free (i*4+1) (by omega);have f2:=hB2.free (i*4+2) (by omega);have f3:=hB2.free (i*4+3) (by omega);obtain⟨⟨c0,c1,c2,c3⟩,-,cl⟩:=hCn.below hb2 hCn.2.2;have dl:=hB2.lt)
     refine⟨⟨i+1,q+1,_,by omega,by omega,by go_num,by go_num,by rw[HNX.out,bd,HLEN.out];rfl,hB2.set i (by omega) S,aa fun j hj=>?_,aa fun j h1 h2=>?_,abq (Hb.out.trans (hrw2.mono (dj hgr))) ac _ _⟩,by simp[intOf];omega⟩
     ·rw[HNX.out]
      by_cases he:j=i
      ·subst he;rw[if_pos rfl,<-HLEN.out,ako]
      ·rw[if_neg he,akn _ _ _ (by rw[HLEN.out];omega)];exact hD1.out j (by omega)
     ·rw[if_neg (by omega)];exact hD2.out j (by omega) h2
    ·have HC:=aa (hp▸hcall.out)
     have HNX:Hid (LT (q+1)=LT q):=aa (by rw[HSX.out,hp,if_pos rfl]);clear hcall hp;go_wp2_with(go_at_call 193;refine HC.out.mono ?_;rintro e w2⟨rfl,hb2⟩)
     have hrw2:=hA.trans (hb2.mono hA.size);exact⟨⟨i,q+1,D,by omega,by omega,by go_num,rfl,by rw[HNX.out];exact HLEN.out,HBD.out.below hrw2 hgr,aa fun j hj=>by rw[HNX.out];exact hD1.out j hj,aa fun j h1 h2=>hD2.out j (by omega) h2,Hb.out.trans (hrw2.mono (dj hgr))⟩,by simp[intOf];omega⟩
   ·obtain rfl:q=n:=by omega
    have hini:(i:Int)<q:=by omega
    have hi0:(0:Int)<=i:=by omega
    have hcI:(i:Int)<=cap:=by omega
    have hcI2:(q:Int)<=cap:=by omega
    obtain⟨zs,hclr⟩:∃zs,∀ty,(Builtin.clear_ #[50] ty #[.slice (some ⟨g,i*4,none⟩) (q-i) (cap-i)]).run prog wr=.ok (.tuple #[]) (wr.setCells g (i*4) zs):=act wr g q i (cap-i) D HBD.out hiq;have HB4:Hid (fm (wr.setCells g (i*4) zs) (some ⟨g,0,none⟩) i (gc (LT q)) (wr.setCells g (i*4) zs).heap.size):=aa (.inr ⟨g,0,rfl,az hgr (kw g (Nat.le_refl g) zs (i*4) wr ae).size,fun j hj=>by
     have e:∀o,o<i*4->(wr.setCells g (i*4) zs).cell? ⟨g,o,none⟩=wr.cell? ⟨g,o,none⟩:=fun o ho=>World.cell?_setCells_out g zs (i*4) wr ⟨g,o,none⟩ (fun _ _=>.inl ho)
     obtain⟨h0,h1,h2,h3⟩:=HBD.out.cells j (by omega)
     rw[hD1.out j hj]at h0 h1 h2 h3
     simp only[dg]
     exact⟨(e _ (by omega)).trans h0,(e _ (by omega)).trans h1,(e _ (by omega)).trans h2,(e _ (by omega)).trans h3⟩⟩)
    have HBe:=aa (kw g (Nat.le_refl g) zs (i*4) wr Hb.out);go_wp2_with fail
    go_ret;exact⟨some ⟨g,0,none⟩,cap,by rw[HLEN.out];rfl,by rw[HLEN.out];exact HB4.out,HBe.out⟩
theorem ai6(b1 m:Nat)(p:(Nat->Bool)->Bool)(l:List (Nat->Bool))(ad:Option Addr)(cap:Nat)(hl:l.length<=1000)(w:World)(g:Nat)(hmg:m<=g)(hcap:l.length<=cap)(hB:l.length=0\/ad=some ⟨g,0,none⟩/\uf w g l.length (gc l))(hgw:g<=w.heap.size)
 (hf:∀S w',Below m w w'->Calls prog 194 #[cv S,.pointer (some ⟨b1,0,none⟩)] w' fun e w2=>e=.returned (.bool (p S))/\Below w'.heap.size w' w2):
 Calls prog 195 #[.slice ad l.length cap,.func (.func 194) #[] #[.pointer (some ⟨b1,0,none⟩)]] w fun e w'=>∃ad' cap',e=.returned (.slice ad' (l.filter fun S=> !p S).length cap')/\fm w' ad' (l.filter fun S=> !p S).length (gc (l.filter fun S=> !p S)) w'.heap.size/\Below g w w':=by
 have hR:fm w ad l.length (gc l) w.heap.size:=by
  rcases hB with h|⟨rfl,h⟩
  ·exact .inl h
  ·exact h.row _ ac
 have hix:=aa (af5 b1 m p ad l.length cap (gc l) hl w (by omega) hR hf);have HF:=aa hf;have HLS:=aa fun j hj=>tf p l j hj
 have HLL:=aa fun j=>vd p l j
 rw[<-aa9 p l];have HSM:=aa fun k hk h=>yz p l k hk h
 obtain⟨n,hn⟩:∃n,n=l.length:=⟨_,rfl⟩;rw[<-hn]at hix hB hR hl hcap HLS HSM⊢;have hnI:(n:Int)<=1000:=by omega
 have HN:=aa hn;clear hf hn;generalize hLT:p6 p l=LT at *;clear hLT;go_enter func195,ntmps195;go_wp2_with fail
 refine hix.out.mono ?_;rintro e w1⟨⟨i,rfl,hi⟩,hb1⟩;have Hb1:=aa (hb1.mono hgw);have hz1:=hb1.size;rcases hi with⟨rfl,hno⟩|⟨k,rfl,hkn,hpk,hno⟩
 ·have hall:=HSM.out n (by have:=HN.out;omega) hno
  have hall2:LT n=l:=by rw[hall,HN.out,dr]
  have HR1:=aa ((hR.below hb1 ac).mono hz1);have hnn:(LT n).length=n:=by rw[hall2];exact HN.out.symm
  have HA2:=aa hall2;have HNN:=aa hnn;clear hB hR hb1 hno hall hall2 hnn;go_wp2_with fail
  go_ret;exact⟨ad,cap,by rw[HNN.out];rfl,by rw[HNN.out,HA2.out];exact HR1.out,Hb1.out⟩
 ·have hn0:n≠0:=by omega
  obtain⟨rfl,hBk⟩:=hB.resolve_left hn0;have hgl:=hBk.lt;have HB1:=aa (hBk.below hb1 hgl);have HLk:=HSM.out k (by have:=HN.out;omega) hno;have HLK:Hid (LT (k+1)=l.take k):=aa (by
   have h:=HLS.out k (by omega)
   rw[hpk,if_pos rfl]at h
   rw[h]
   exact HLk)
  have HTL:Hid ((l.take k).length=k):=aa (by rw[List.length_take];have:=HN.out;omega);have hkI:(k:Int)<n:=by omega
  have hk0:((k:Int)== -1)=false:=by rw[ax];omega
  clear hB hBk hR hb1 hno HLk hpk hn0;go_wp2_with fail
  go_loopw[5,6] (fun i j wr=>∃(i' q:Nat)(D:Nat->Nat->Bool),q<=n/\i'<q/\j=.int .i64 q/\i=.int .i64 i'/\(LT q).length=i'/\uf wr g n D/\Hid (∀j,j<i'->D j=gc (LT q) j)/\Hid (∀j,q<=j->j<n->D j=gc l j)/\Below g w wr) (fun _ j _=>n-(intOf j).toNat)
  case atStart=>exact⟨k,k+1,gc l,by omega,by omega,by go_num,rfl,by rw[HLK.out];exact HTL.out,HB1.out,aa fun j hj=>by rw[HLK.out,akm _ _ _ hj],aa fun j _ _=>rfl,Hb1.out⟩
  case round=>
   obtain⟨i,q,D,hq,hiq,rfl,rfl,hlen,hBD,hD1,hD2,hb⟩:=hrel;have HLEN:=aa hlen;have HBD:=aa hBD;have Hb:=aa hb;have hgr:=hBD.lt;clear hlen hBD hb;by_cases hlt:q<n
   ·have hlti:(q:Int)<n:=by omega
    have hq0:(0:Int)<=q:=by omega
    have hi0:(0:Int)<=i:=by omega
    have hini:(i:Int)<n:=by omega
    obtain⟨e0,e1,e2,e3⟩:=HBD.out.cells q hlt;have hDq:=hD2.out q ac hlt;rw[hDq]at e0 e1 e2 e3;have HSX:=aa (HLS.out q (by omega));obtain⟨S,hS⟩:∃S,S=gc l q:=⟨_,rfl⟩;rw[<-hS]at e0 e1 e2 e3 hDq HSX;have HSE:=aa hS;have hA:Below wr.heap.size wr (wr.alloc (.cells #[.int .u64 (wd S 0:Nat),.int .u64 (wd S 1:Nat),.int .u64 (wd S 2:Nat),.int .u64 (wd S 3:Nat)] 100)):=ae.alloc ac _;have hCn:=fc.new wr S;have hcall:=aa (HF.out S (wr.alloc (.cells #[.int .u64 (wd S 0:Nat),.int .u64 (wd S 1:Nat),.int .u64 (wd S 2:Nat),.int .u64 (wd S 3:Nat)] 100)) ((Hb.out.trans (hA.mono (dj hgr))).mono hmg));have HDQ:=aa hDq;clear hS hDq;cases hp:p S
    ·have HC:=aa (hp▸hcall.out)
     have HNX:Hid (LT (q+1)=LT q++[S]):=aa (by rw[HSX.out,hp,if_neg (by decide)]);clear hcall hp;go_wp2_with(go_at_call 194;refine HC.out.mono ?_;rintro e w2⟨rfl,hb2⟩;have hrw2:=hA.trans (hb2.mono hA.size);have hB2:=HBD.out.below hrw2 hgr;obtain⟨d0,d1,d2,d3⟩:=hB2.cells i (by omega);have f0:=hB2.free (i*4) (by omega);have f1:=hB2.free (i*4+1) (by omega);have f2:=hB2.free (i*4+2) (by omega);have f3:=hB2.free (i*4+3) (by omega);obtain⟨⟨c0,c1,c2,c3⟩,-,cl⟩:=hCn.below hb2 hCn.2.2;have dl:=hB2.lt)
     refine⟨⟨i+1,q+1,_,by omega,by omega,by go_num,by go_num,by rw[HNX.out,bd,HLEN.out];rfl,hB2.set i (by omega) S,aa fun j hj=>?_,aa fun j h1 h2=>?_,abq (Hb.out.trans (hrw2.mono (dj hgr))) ac _ _⟩,by simp[intOf];omega⟩
     ·rw[HNX.out]
      by_cases he:j=i
      ·subst he;rw[if_pos rfl,<-HLEN.out,ako]
      ·rw[if_neg he,akn _ _ _ (by rw[HLEN.out];omega)];exact hD1.out j (by omega)
     ·rw[if_neg (by omega)];exact hD2.out j (by omega) h2
    ·have HC:=aa (hp▸hcall.out)
     have HNX:Hid (LT (q+1)=LT q):=aa (by rw[HSX.out,hp,if_pos rfl]);clear hcall hp;go_wp2_with(go_at_call 194;refine HC.out.mono ?_;rintro e w2⟨rfl,hb2⟩)
     have hrw2:=hA.trans (hb2.mono hA.size);exact⟨⟨i,q+1,D,by omega,by omega,by go_num,rfl,by rw[HNX.out];exact HLEN.out,HBD.out.below hrw2 hgr,aa fun j hj=>by rw[HNX.out];exact hD1.out j hj,aa fun j h1 h2=>hD2.out j (by omega) h2,Hb.out.trans (hrw2.mono (dj hgr))⟩,by simp[intOf];omega⟩
   ·obtain rfl:q=n:=by omega
    have hini:(i:Int)<q:=by omega
    have hi0:(0:Int)<=i:=by omega
    have hcI:(i:Int)<=cap:=by omega
    have hcI2:(q:Int)<=cap:=by omega
    obtain⟨zs,hclr⟩:∃zs,∀ty,(Builtin.clear_ #[50] ty #[.slice (some ⟨g,i*4,none⟩) (q-i) (cap-i)]).run prog wr=.ok (.tuple #[]) (wr.setCells g (i*4) zs):=act wr g q i (cap-i) D HBD.out hiq;have HB4:Hid (fm (wr.setCells g (i*4) zs) (some ⟨g,0,none⟩) i (gc (LT q)) (wr.setCells g (i*4) zs).heap.size):=aa (.inr ⟨g,0,rfl,az hgr (kw g (Nat.le_refl g) zs (i*4) wr ae).size,fun j hj=>by
     have e:∀o,o<i*4->(wr.setCells g (i*4) zs).cell? ⟨g,o,none⟩=wr.cell? ⟨g,o,none⟩:=fun o ho=>World.cell?_setCells_out g zs (i*4) wr ⟨g,o,none⟩ (fun _ _=>.inl ho)
     obtain⟨h0,h1,h2,h3⟩:=HBD.out.cells j (by omega)
     rw[hD1.out j hj]at h0 h1 h2 h3
     simp only[dg]
     exact⟨(e _ (by omega)).trans h0,(e _ (by omega)).trans h1,(e _ (by omega)).trans h2,(e _ (by omega)).trans h3⟩⟩)
    have HBe:=aa (kw g (Nat.le_refl g) zs (i*4) wr Hb.out);go_wp2_with fail
    go_ret;exact⟨some ⟨g,0,none⟩,cap,by rw[HLEN.out];rfl,by rw[HLEN.out];exact HB4.out,HBe.out⟩
end
section
set_option maxRecDepth 100000
set_option maxHeartbeats 4000000
open Go.RowKit Go.Shelf
def lz(L:Nat->Nat->Bool)(n:Nat)(least:Int)(S:Nat->Bool):Bool:=decide (least<=((im S L n).length:Int))
theorem aei(bl bx:Nat)(ad:Option Addr)(n cap:Nat)(K least:Int)(L:Nat->Nat->Bool)(hn:(n:Int)<=1000)(S:Nat->Bool)(w:World)(hl:fk w bl ad n cap K)(hR:fm w ad n L w.heap.size)(hx:Boxed w bx 3 (.int .i64 least)):
 Calls prog 193 #[cv S,.pointer (some ⟨bl,0,none⟩),.pointer (some ⟨bx,0,none⟩)] w fun e w'=>e=.returned (.bool (lz L n least S))/\Below w.heap.size w w':=by
 have hw:=aa fun w'(h:fm w' ad n L w'.heap.size)=>q9 ad n cap K L S (by omega) w' h
 unfold lz;have hA:Below w.heap.size w (w.alloc (.cells #[.int .u64 (wd S 0:Nat),.int .u64 (wd S 1:Nat),.int .u64 (wd S 2:Nat),.int .u64 (wd S 3:Nat)] 100)):=ae.alloc ac _;have hCn:=fc.new w S;obtain⟨⟨d0,d1,d2,d3⟩,-,dl⟩:=id hCn;obtain⟨c0,c1,cl⟩:=id (hl.below hA hl.2.2);have x0:=(Boxed.below hx hA hx.lt).cell;have xl:=(Boxed.below hx hA hx.lt).lt;have HRA:=aa ((hR.below hA ac).mono hA.size);have HA:=aa hA;obtain⟨q,hq⟩:∃q,q=(im S L n).length:=⟨_,rfl⟩;rw[<-hq]at hw⊢;clear hl hR hx hCn hA hq;go_enter func193,ntmps193;go_wp2_with fail
 generalize (w.alloc (.cells #[.int .u64 (wd S 0:Nat),.int .u64 (wd S 1:Nat),.int .u64 (wd S 2:Nat),.int .u64 (wd S 3:Nat)] 100))=WA at d0 d1 d2 d3 dl c0 c1 cl x0 xl HRA HA⊢;go_region_held3 (fun w'=>fo WA w') (first|with_reducible exact fo.start _|with_reducible exact fo.calld (fo.refl _) (by with_reducible assumption)|with_reducible exact fo.call (by with_reducible assumption) (by with_reducible assumption)) (first|(go_at_call 180;refine(hw.out _ ((HRA.out.below (show fo WA _ by with_reducible assumption).2.2.2 ac).mono (show fo WA _ by with_reducible assumption).2.2.1)).mono ?_;rintro e w1⟨v1,rfl,ho1,hb1⟩;obtain⟨ad1,cap1,rfl⟩:=ey ho1))
 have hO:=(show fo WA _ by with_reducible assumption).2.2.2;go_wp2_with fail
 go_ret;exact⟨rfl,HA.out.trans (hO.mono HA.out.size)⟩
theorem ap2(bf bl bx:Nat)(p:(Nat->Bool)->Bool)(S:Nat->Bool)(w:World)(hx:Boxed w bf 228 (.func (.func 193) #[] #[.pointer (some ⟨bl,0,none⟩),.pointer (some ⟨bx,0,none⟩)]))
 (hf:∀w',Below w.heap.size w w'->Calls prog 193 #[cv S,.pointer (some ⟨bl,0,none⟩),.pointer (some ⟨bx,0,none⟩)] w' fun e w2=>e=.returned (.bool (p S))/\Below w'.heap.size w' w2):
 Calls prog 194 #[cv S,.pointer (some ⟨bf,0,none⟩)] w fun e w'=>e=.returned (.bool (!p S))/\Below w.heap.size w w':=by
 have hA:Below w.heap.size w (w.alloc (.cells #[.int .u64 (wd S 0:Nat),.int .u64 (wd S 1:Nat),.int .u64 (wd S 2:Nat),.int .u64 (wd S 3:Nat)] 100)):=ae.alloc ac _;have hCn:=fc.new w S;obtain⟨⟨d0,d1,d2,d3⟩,-,dl⟩:=id hCn;have x0:=(Boxed.below hx hA hx.lt).cell;have HF:=aa (hf _ hA);have HA:=aa hA;clear hx hf hCn hA;cases hp:p S
 ·rw[hp]at HF
  go_enter func194,ntmps194;go_wp2_with(go_at_call 193;refine HF.out.mono ?_;rintro e w1⟨rfl,hb1⟩)
  go_ret;exact⟨rfl,HA.out.trans (hb1.mono HA.out.size)⟩
 ·rw[hp]at HF
  go_enter func194,ntmps194;go_wp2_with(go_at_call 193;refine HF.out.mono ?_;rintro e w1⟨rfl,hb1⟩)
  go_ret;exact⟨rfl,HA.out.trans (hb1.mono HA.out.size)⟩
theorem ze{w:World}{base cap:Nat}{ad:Option Addr}{l:List (Nat->Bool)}(hbs:base<=w.heap.size)(h:w.ownsRow base 100 4 (.slice ad l.length cap) l.length (ji l)):∃g,base<=g/\g<=w.heap.size/\l.length<=cap/\(l.length=0\/ad=some ⟨g,0,none⟩/\uf w g l.length (gc l)):=by
 have hr:=o7 h;rcases h.2 with⟨h1,h2⟩|⟨g,cp,cur,h1,hg,hgb,hle,_⟩
 ·exact⟨base,ac,hbs,by omega,.inl h2⟩
 ·cases h1
  have hgl:g<w.heap.size:=(df.1 hgb).1;refine⟨g,hg,dj hgl,hle,.inr ⟨rfl,⟨fun j hj=>?_,fun o ho=>?_,hgl⟩⟩⟩
  ·obtain⟨b',o',e,-,hc⟩:=hr.at hj
   cases e;simpa only[dg]using hc
  ·simp[World.frozen?,hgb]
theorem asd(l:List (Nat->Bool)):∀u∈ji l,u.oneCell'=true:=by
 intro u hu;simp only[ji,List.mem_flatMap]at hu;obtain⟨S,-,hu⟩:=hu;simp at hu;rcases hu with rfl|rfl|rfl|rfl<;>rfl
theorem acs(ad:Option Addr)(cap:Nat)(l:List (Nat->Bool))(hl:l.length<=1000)(w:World)(hR:fm w ad l.length (gc l) w.heap.size):
 Calls prog 161 #[.slice ad l.length cap] w fun e w'=>∃v,e=.returned v/\w'.ownsRow w.heap.size 100 4 v l.length (ji l)/\Below w.heap.size w w':=by
 refine aem ad l.length cap (ji l) (by omega) (y9 l) (asd l) w ?_;rcases hR with h|⟨b,o,ha,hb,hc⟩
 ·exact .inl h
 ·refine .inr ⟨b,o,ha,hb,fun j u hj=>?_⟩
  have hlen:j<l.length*4:=by rw[<-y9];exact(cy.1 hj).1
  obtain⟨q,r,hr,rfl⟩:∃q r,r<4/\j=q*4+r:=⟨j/4,j%4,Nat.mod_lt _ (by decide),by omega⟩;have hq:q<l.length:=by omega
  obtain⟨h0,h1,h2,h3⟩:=hc q hq;obtain⟨g0,g1,g2,g3⟩:=tq (gc l) l.length q hq;rw[we]at hj;have:r=0\/r=1\/r=2\/r=3:=by omega
  rcases this with rfl|rfl|rfl|rfl
  ·rw[Nat.add_zero,g0]at hj;cases hj;rw[Nat.add_zero];exact h0
  ·rw[g1]at hj;cases hj;exact h1
  ·rw[g2]at hj;cases hj;exact h2
  ·rw[g3]at hj;cases hj;exact h3
end
end Go.Proofs.YtjfkmoinldlmaaaGreat
