/- The walk of BeagleFails, part 5. Leaves as values, rows of classes and of numbers; walks of leaf.Right, ref Right, few, Places. -/
import Derived.Test.YtjfkmoinldlmaaaGreatFa04
import Derived.WalkSmall
namespace Go.Proofs.YtjfkmoinldlmaaaGreat
open Go.Proofs.Tryz
section
set_option maxRecDepth 100000
set_option maxHeartbeats 4000000
open Go.RowKit
abbrev fm(w:World)(ad:Option Addr)(n:Nat)(L:Nat->Nat->Bool)(m:Nat):Prop:=
 n=0\/∃b o,ad=some ⟨b,o,none⟩/\b<m/\∀j,j<n->w.cell? ⟨b,o+j*4,none⟩=some (.int .u64 (wd (L j) 0:Nat))/\w.cell? ⟨b,o+j*4+1,none⟩=some (.int .u64 (wd (L j) 1:Nat))∧
  w.cell? ⟨b,o+j*4+2,none⟩=some (.int .u64 (wd (L j) 2:Nat))/\w.cell? ⟨b,o+j*4+3,none⟩=some (.int .u64 (wd (L j) 3:Nat))
theorem fm.below{w w':World}{ad:Option Addr}{n m k:Nat}{L:Nat->Nat->Bool}(h:fm w ad n L m)(hb:Below k w w')(hm:m<=k):fm w' ad n L m:=by
 rcases h with h|⟨b,o,ha,hlt,hc⟩
 ·exact .inl h
 ·refine .inr ⟨b,o,ha,hlt,fun j hj=>?_⟩
  obtain⟨h0,h1,h2,h3⟩:=hc j hj;have e:=fun i=>hb.cell (p:=⟨b,i,none⟩) (az hlt hm)
  exact⟨(e _).trans h0,(e _).trans h1,(e _).trans h2,(e _).trans h3⟩
theorem fm.at{w:World}{ad:Option Addr}{n m:Nat}{L:Nat->Nat->Bool}(h:fm w ad n L m){j:Nat}(hj:j<n):∃b o,ad=some ⟨b,o,none⟩/\b<m/\w.cell? ⟨b,o+j*4,none⟩=some (.int .u64 (wd (L j) 0:Nat))/\w.cell? ⟨b,o+j*4+1,none⟩=some (.int .u64 (wd (L j) 1:Nat))∧
 w.cell? ⟨b,o+j*4+2,none⟩=some (.int .u64 (wd (L j) 2:Nat))/\w.cell? ⟨b,o+j*4+3,none⟩=some (.int .u64 (wd (L j) 3:Nat)):=by
 rcases h with h|⟨b,o,ha,hlt,hc⟩
 ·omega
 ·exact⟨b,o,ha,hlt,hc j hj⟩
theorem fm.mono{w:World}{ad:Option Addr}{n m m':Nat}{L:Nat->Nat->Bool}(h:fm w ad n L m)(hm:m<=m'):fm w ad n L m':=by
 rcases h with h|⟨b,o,ha,hlt,hc⟩
 ·exact .inl h
 ·exact .inr ⟨b,o,ha,az hlt hm,hc⟩
def sm(p:Nat->Bool):Nat->Bool
 |0=>false
 |k+1=>sm p k||p k
theorem agu(p:Nat->Bool)(k:Nat):sm p k=true↔∃j,j<k/\p j=true:=by
 induction k with
 |zero=>simp[sm]
 |succ k ih=>
  simp only[sm,Bool.or_eq_true,ih];constructor
  ·rintro(⟨j,hj,h⟩|h)
   ·exact⟨j,by omega,h⟩
   ·exact⟨k,by omega,h⟩
  ·rintro⟨j,hj,h⟩
   by_cases he:j=k
   ·subst he;exact .inr h
   ·exact .inl ⟨j,by omega,h⟩
theorem agv{p:Nat->Bool}{k n:Nat}(hk:k<n)(h:p k=true):sm p n=true:=(agu p n).2 ⟨k,hk,h⟩
theorem anf(ad:Option Addr)(n cap:Nat)(L:Nat->Nat->Bool)(S:Nat->Bool)(hn:(n:Int)<=4611686018427387904)(w:World)(hR:fm w ad n L w.heap.size):
 Calls prog 150 #[.slice ad n cap,cv S] w fun e w'=>∃r:Int,e=.returned (.int .i64 r)/\decide (0<=r)=sm (fun j=>fj S (L j)) n/\Below w.heap.size w w':=by
 go_enter func150,ntmps150;go_wp2_with fail
 have hS:=fc.new w S;obtain⟨W0,hW0⟩:∃W0:World,w.alloc (.cells #[.int .u64 (wd S 0:Nat),.int .u64 (wd S 1:Nat),.int .u64 (wd S 2:Nat),.int .u64 (wd S 3:Nat)] 100)=W0:=⟨_,rfl⟩;have HB:Below w.heap.size w W0:=by subst hW0;exact ae.alloc ac _
 have hR0:=hR.below HB ac;rw[hW0]at hS⊢;clear hW0 hR;have l0:=hS.2.2;go_loopw[8] (fun i wr=>∃k:Nat,k<=n/\i=.int .i64 k/\sm (fun j=>fj S (L j)) k=false/\fo W0 wr) (fun i _=>n-(intOf i).toNat)
 case atStart=>exact⟨0,by omega,rfl,rfl,fo.refl _⟩
 case round=>
  obtain⟨k,hk,rfl,hany,hO⟩:=hrel;have hS1:=hS.below hO.2.2.2 l0;have hR1:=hR0.below hO.2.2.2 (dj l0);have HB1:=HB.trans (hO.2.2.2.mono HB.size);have HO:=aa hO;have HA:=aa hany;clear hO hany;by_cases hlt:k<n
  ·obtain⟨b,o,rfl,hb,e0,e1,e2,e3⟩:=hR1.at hlt
   clear hR1 hR0;have hlti:(k:Int)<n:=by omega
   cases hq:fj S (L k)
   ·go_wp2_with fail
    go_region;go_wp2;refine⟨⟨k+1,by omega,by go_num,?_,fo.trans HO.out (fo.of (cu ae _))⟩,by simp[intOf];omega⟩;show(sm _ k||fj S (L k))=false;rw[HA.out,hq];rfl
   ·go_wp2_with fail
    go_region;go_wp2;go_ret;exact⟨k,rfl,by rw[agv hlt hq];simp,HB1.drew⟩
  ·obtain rfl:k=n:=by omega
   go_wp2;go_ret;exact⟨-1,rfl,by rw[HA.out];rfl,HB1⟩
theorem si(ad:Option Addr)(n cap:Nat)(L:Nat->Nat->Bool)(S:Nat->Bool)(hn:(n:Int)<=4611686018427387904)(w:World)(hR:fm w ad n L w.heap.size):
 Calls prog 92 #[.slice ad n cap,cv S] w fun e w'=>e=.returned (.bool (sm (fun j=>fj S (L j)) n))/\Below w.heap.size w w':=by
 go_enter func92,ntmps92;have HB:Below w.heap.size w (w.alloc (.cells #[.int .u64 (wd S 0:Nat),.int .u64 (wd S 1:Nat),.int .u64 (wd S 2:Nat),.int .u64 (wd S 3:Nat)] 100)):=ae.alloc ac _;have hR0:=(hR.below HB ac).mono HB.size;go_wp2_with(go_at_call 150;refine(anf ad n cap L S hn _ (by assumption)).mono ?_;rintro e w1⟨r,rfl,hr,hb⟩)
 go_ret;exact⟨rfl,HB.trans (hb.mono HB.size)⟩
theorem vi(ad:Option Addr)(n cap:Nat)(L:Nat->Nat->Bool)(hn:(n:Int)<=4611686018427387904)(w:World)(hR:fm w ad n L w.heap.size):
 Calls prog 92 #[.slice ad n cap,.agg #[.int .u64 0,.int .u64 0,.int .u64 0,.int .u64 0]] w fun e w'=>e=.returned (.bool (sm (fun j=>fj fu (L j)) n))/\Below w.heap.size w w':=by
 have h:=si ad n cap L fu hn w hR;rw[cv0]at h;exact h
abbrev lv(ad:Option Addr)(n cap:Nat)(K:Int):Value:=.agg #[.slice ad n cap,.int .i64 K]
abbrev fk(w:World)(B:Nat)(ad:Option Addr)(n cap:Nat)(K:Int):Prop:=
 w.cell? ⟨B,0,none⟩=some (.slice ad n cap)/\w.cell? ⟨B,1,none⟩=some (.int .i64 K)/\B<w.heap.size
theorem fk.new(w:World)(ad:Option Addr)(n cap:Nat)(K:Int):fk (w.alloc (.cells #[.slice ad n cap,.int .i64 K] 52)) w.heap.size ad n cap K:=by
 refine⟨?_,?_,?_⟩<;>simp[go_sem]
theorem fk.below{w w':World}{B n':Nat}{ad:Option Addr}{n cap:Nat}{K:Int}(h:fk w B ad n cap K)(hb:Below n' w w')(hn:B<n'):fk w' B ad n cap K:=
 ⟨(hb.cell (p:=⟨B,0,none⟩) hn).trans h.1,(hb.cell (p:=⟨B,1,none⟩) hn).trans h.2.1,az h.2.2 hb.size⟩
def fv(n:Nat)(L:Nat->Nat->Bool)(K:Int):Bool:=
 decide (1<=n)&&(decide (n<=64)&&(!sm (fun j=>fj fu (L j)) n&&(decide (0<=K)&&decide (K<=64))))
theorem jn(ad:Option Addr)(n cap:Nat)(K:Int)(L:Nat->Nat->Bool)(hn:(n:Int)<=4611686018427387904)(w:World)(hR:fm w ad n L w.heap.size):
 Calls prog 134 #[lv ad n cap K] w fun e w'=>e=.returned (.bool (fv n L K))/\Below w.heap.size w w':=by
 go_enter func134,ntmps134;have HB:Below w.heap.size w (w.alloc (.cells #[.slice ad n cap,.int .i64 K] 52)):=ae.alloc ac _;have hR0:=(hR.below HB ac).mono HB.size;have hl:=fk.new w ad n cap K;go_wp2_with fail
 refine(vi ad n cap L hn _ hR0).mono ?_;rintro e w1⟨rfl,hb⟩;have hl1:=hl.below hb hl.2.2;have HB1:=HB.trans (hb.mono HB.size);clear hl HB hb hR0 hR;have hr:∀a1 a2 a3 a4 a5:Bool,decide (1<=n)=a1->decide (n<=64)=a2->sm (fun j=>fj fu (L j)) n=a3->decide (0<=K)=a4->decide (K<=64)=a5->fv n L K=(a1&&(a2&&(!a3&&(a4&&a5)))):=by
  rintro a1 a2 a3 a4 a5 rfl rfl rfl rfl rfl;rfl
 generalize hany:sm (fun j=>fj fu (L j)) n=any at hr⊢;have HR:=aa hr;clear hr;by_cases h1:(1:Int)<=n
 ·by_cases h2:(n:Int)<=64
  ·cases any
   ·by_cases h4:0<=K
    ·by_cases h5:K<=64
     ·go_wp2
      go_ret;exact⟨by rw[HR.out true true false true true (by simp;omega) (by simp;omega) rfl (by simp;omega) (by simp;omega)];rfl,HB1⟩
     ·go_wp2
      go_ret;exact⟨by rw[HR.out true true false true _ (by simp;omega) (by simp;omega) rfl (by simp;omega) rfl];rfl,HB1⟩
    ·go_wp2
     go_ret;exact⟨by rw[HR.out true true false false _ (by simp;omega) (by simp;omega) rfl (by simp;omega) rfl];rfl,HB1⟩
   ·go_wp2
    go_ret;exact⟨by rw[HR.out true true true _ _ (by simp;omega) (by simp;omega) rfl rfl rfl];rfl,HB1⟩
  ·go_wp2
   go_ret;exact⟨by rw[HR.out true false _ _ _ (by simp;omega) (by simp;omega) rfl rfl rfl];rfl,HB1⟩
 ·go_wp2
  go_ret;exact⟨by rw[HR.out false _ _ _ _ (by simp;omega) rfl rfl rfl rfl];rfl,HB1⟩
theorem asc(S:Nat->Bool):(nt S=0)↔fj fu S=true:=by
 have h:∀k,j0 S k=0↔∀n,n<k->S n=false:=by
  intro k;induction k with
  |zero=>simp[j0]
  |succ k ih=>
   simp only[j0];by_cases hk:S k=true
   ·simp only[hk,if_true]
    constructor
    ·intro h;omega
    ·intro h;have:=h k (by omega);rw[hk]at this;cases this
   ·have hf:S k=false:=by simpa using hk
    simp only[hf,Bool.false_eq_true,if_false,Nat.add_zero,ih];constructor
    ·intro h n hn
     by_cases he:n=k
     ·subst he;exact hf
     ·exact h n (by omega)
    ·intro h n hn;exact h n (by omega)
 rw[jp];unfold nt;rw[h 256];exact⟨fun h n hn=>(h n hn).symm,fun h n hn=>(h n hn).symm⟩
theorem px(ad:Option Addr)(n cap:Nat)(K:Int)(L:Nat->Nat->Bool)(hn:(n:Int)<=4611686018427387904)(w:World)(hR:fm w ad n L w.heap.size):
 Calls prog 172 #[lv ad n cap K] w fun e w'=>e=.returned (.bool (fv n L K))/\Below w.heap.size w w':=by
 have hr:∀a1 a2 a3 a4 a5:Bool,decide (1<=n)=a1->decide (n<=64)=a2->sm (fun j=>fj fu (L j)) n=a3->decide (0<=K)=a4->decide (K<=64)=a5->fv n L K=(a1&&(a2&&(!a3&&(a4&&a5)))):=by
  rintro a1 a2 a3 a4 a5 rfl rfl rfl rfl rfl;rfl
 have hz:∀j,nt (L j)=0↔fj fu (L j)=true:=fun j=>asc (L j)
 have HR:=aa hr;have HZ:=aa hz;clear hr hz;have HB:Below w.heap.size w (w.alloc (.cells #[.slice ad n cap,.int .i64 K] 52)):=ae.alloc ac _;by_cases h1:(1:Int)<=n
 ·by_cases h2:(n:Int)<=64
  ·by_cases h4:0<=K
   ·by_cases h5:K<=64
    ·go_enter func172,ntmps172
     go_wp2_with fail
     have hl:=fk.new w ad n cap K;obtain⟨W0,hW0⟩:∃W0:World,w.alloc (.cells #[.slice ad n cap,.int .i64 K] 52)=W0:=⟨_,rfl⟩;have hR0:=hR.below HB ac;rw[hW0]at hl HB hR0⊢;clear hW0 hR;have l0:=hl.2.2;go_loopw[3] (fun i wr=>∃k:Nat,k<=n/\i=.int .i64 k/\sm (fun j=>fj fu (L j)) k=false/\fo W0 wr) (fun i _=>n-(intOf i).toNat)
     case atStart=>exact⟨0,by omega,rfl,rfl,fo.refl _⟩
     case round=>
      obtain⟨k,hk,rfl,hany,hO⟩:=hrel;have hl1:=hl.below hO.2.2.2 l0;have hR1:=hR0.below hO.2.2.2 (dj l0);have HB1:=HB.trans (hO.2.2.2.mono HB.size);have HO:=aa hO;have HA:=aa hany;clear hO hany;by_cases hlt:k<n
      ·obtain⟨b,o,rfl,hb,e0,e1,e2,e3⟩:=hR1.at hlt
       clear hR1 hR0;have hlti:(k:Int)<n:=by omega
       by_cases hq:nt (L k)=0
       ·go_wp2_with(go_at_call 218;refine(ui _ _).mono ?_;rintro e w1⟨rfl,hb1⟩)
        go_ret;exact⟨by rw[HR.out _ _ true _ _ rfl rfl (agv hlt ((HZ.out k).1 hq)) rfl rfl];simp,HB1.trans (hb1.mono HB1.size)⟩
       ·go_wp2_with(go_at_call 218;refine(ui _ _).mono ?_;rintro e w1⟨rfl,hb1⟩)
        refine⟨⟨k+1,by omega,by go_num,?_,fo.trans HO.out (fo.of hb1)⟩,by simp[intOf];omega⟩;have hq':fj fu (L k)=false:=by rw[HZ.out k]at hq;simpa using hq
        show(sm _ k||fj fu (L k))=false;rw[HA.out,hq'];rfl
      ·obtain rfl:k=n:=by omega
       go_wp2;go_ret;exact⟨by rw[HR.out true true false true true (by simp;omega) (by simp;omega) HA.out (by simp;omega) (by simp;omega)];rfl,HB1⟩
    ·go_enter func172,ntmps172
     go_wp2_with fail
     go_ret;exact⟨by rw[HR.out _ _ _ _ false rfl rfl rfl rfl (by simp;omega)];simp,HB⟩
   ·go_enter func172,ntmps172
    go_wp2_with fail
    go_ret;exact⟨by rw[HR.out _ _ _ false _ rfl rfl rfl (by simp;omega) rfl];simp,HB⟩
  ·go_enter func172,ntmps172
   go_wp2_with fail
   go_ret;exact⟨by rw[HR.out _ false _ _ _ rfl (by simp;omega) rfl rfl rfl];simp,HB⟩
 ·go_enter func172,ntmps172
  go_wp2_with fail
  go_ret;exact⟨by rw[HR.out false _ _ _ _ (by simp;omega) rfl rfl rfl rfl];simp,HB⟩
abbrev gg(w:World)(ad:Option Addr)(n:Nat)(A:Nat->Int)(m:Nat):Prop:=
 n=0\/∃b o,ad=some ⟨b,o,none⟩/\b<m/\∀j,j<n->w.cell? ⟨b,o+j,none⟩=some (.int .i64 (A j))
theorem gg.below{w w':World}{ad:Option Addr}{n m k:Nat}{A:Nat->Int}(h:gg w ad n A m)(hb:Below k w w')(hm:m<=k):gg w' ad n A m:=by
 rcases h with h|⟨b,o,ha,hlt,hc⟩
 ·exact .inl h
 ·exact .inr ⟨b,o,ha,hlt,fun j hj=>(hb.cell (p:=⟨b,o+j,none⟩) (az hlt hm)).trans (hc j hj)⟩
theorem gg.at{w:World}{ad:Option Addr}{n m:Nat}{A:Nat->Int}(h:gg w ad n A m){j:Nat}(hj:j<n):∃b o,ad=some ⟨b,o,none⟩/\b<m/\w.cell? ⟨b,o+j,none⟩=some (.int .i64 (A j)):=by
 rcases h with h|⟨b,o,ha,hlt,hc⟩
 ·omega
 ·exact⟨b,o,ha,hlt,hc j hj⟩
theorem gg.mono{w:World}{ad:Option Addr}{n m m':Nat}{A:Nat->Int}(h:gg w ad n A m)(hm:m<=m'):gg w ad n A m':=by
 rcases h with h|⟨b,o,ha,hlt,hc⟩
 ·exact .inl h
 ·exact .inr ⟨b,o,ha,az hlt hm,hc⟩
theorem gg.congr{w:World}{ad:Option Addr}{n m:Nat}{A A':Nat->Int}(h:gg w ad n A m)(he:∀j,j<n->A j=A' j):gg w ad n A' m:=by
 rcases h with h|⟨b,o,ha,hlt,hc⟩
 ·exact .inl h
 ·exact .inr ⟨b,o,ha,hlt,fun j hj=>by rw[hc j hj,he j hj]⟩
def agI(A B:Nat->Int):Nat->Bool
 |0=>true
 |k+1=>agI A B k&&(A k==B k)
theorem agI_iff(A B:Nat->Int)(k:Nat):agI A B k=true↔∀n,n<k->A n=B n:=by
 induction k with
 |zero=>simp[agI]
 |succ k ih=>
  simp only[agI,ce,beq_iff_eq,ih];constructor
  ·rintro⟨h1,h2⟩n hn
   by_cases he:n=k
   ·subst he;exact h2
   ·exact h1 n (by omega)
  ·intro h
   exact⟨fun n hn=>h n (by omega),h k (by omega)⟩
theorem ah6(ad:Option Addr)(n cap:Nat)(A:Nat->Int)(ad':Option Addr)(n' cap':Nat)(A':Nat->Int)(hn:(n:Int)<=4611686018427387904)(hn':(n':Int)<=4611686018427387904)(w:World)
 (hR:gg w ad n A w.heap.size) (hR':gg w ad' n' A' w.heap.size):
 Calls prog 20 #[.slice ad n cap,.slice ad' n' cap'] w fun e w'=>e=.returned (.bool (decide (n=n')&&agI A A' n))/\Below w.heap.size w w':=by
 by_cases hne:n=n'
 ·subst hne
  go_enter func20,ntmps20;go_wp2_with fail
  go_loopw[5] (fun i wr=>∃k:Nat,k<=n/\i=.int .i64 k/\agI A A' k=true/\fo w wr) (fun i _=>n-(intOf i).toNat)
  case atStart=>exact⟨0,by omega,rfl,rfl,fo.refl _⟩
  case round=>
   obtain⟨k,hk,rfl,hag,hO⟩:=hrel;have hR1:=hR.below hO.2.2.2 ac;have hR2:=hR'.below hO.2.2.2 ac;have HO:=aa hO;have HA:=aa hag;clear hO hag;by_cases hlt:k<n
   ·obtain⟨b,o,rfl,hb,e0⟩:=hR1.at hlt
    obtain⟨b',o',rfl,hb',e0'⟩:=hR2.at hlt;clear hR1 hR2 hR hR';have hlti:(k:Int)<n:=by omega
    by_cases hq:A k=A' k
    ·rw[hq]at e0
     go_wp2_with fail
     go_region;go_wp2;refine⟨⟨k+1,by omega,by go_num,?_,fo.trans HO.out (fo.of (cu ae _))⟩,by simp[intOf];omega⟩;show(agI A A' k&&(A k==A' k))=true;rw[HA.out,hq];simp
    ·go_wp2_with fail
     go_region;go_wp2;go_ret;refine⟨?_,HO.out.2.2.2.drew⟩;have:agI A A' n=false:=by
      rw[Bool.eq_false_iff];intro h;exact hq ((agI_iff _ _ _).1 h k hlt)
     rw[this];simp
   ·obtain rfl:k=n:=by omega
    go_wp2;go_ret;exact⟨by rw[HA.out];simp,HO.out.2.2.2⟩
 ·have hni:¬((n:Int)=n'):=by omega
  go_enter func20,ntmps20;go_wp2;go_ret;exact⟨by rw[bv hne];simp,ae⟩
end
end Go.Proofs.YtjfkmoinldlmaaaGreat
