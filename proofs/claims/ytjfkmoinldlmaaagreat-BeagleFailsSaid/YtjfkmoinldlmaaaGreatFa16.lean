/- The walk of BeagleFails, part 16. The power of two that a size is: walks of ntt.Log and of beagleref02.Log. How many transforms: walks of block.Count, of beagleref05.Count and of beagleref10.Size. How a leaf's kinds are parted: walks of plan.Parts and of beagleref16.Parts. Which ways a leaf may be found: walks of plan.Admits and of beagleref16.Admits. Whether a size may be: walks of plan.Sized and of beagleref16.Sized. What the ways cost: walks of the functions of the map in plan.Cost. What a way costs: walk of plan.Cost. What a way costs, as the document says: walk of beagleref16.Cost. The plan in plain terms: the best way, longer texts. The best way: walks of plan.Choose and of beagleref16.Choose; walk of beaglelaw16.few. Walk of beaglelaw07.alive: it returns true. Walk of the law LeafTexts. Walk of the law LeafLetters. -/
import Derived.Test.YtjfkmoinldlmaaaGreatFa14
import Derived.Test.YtjfkmoinldlmaaaGreatFa13
namespace Go.Proofs.YtjfkmoinldlmaaaGreat
open Go.Proofs.Tryz
section
set_option maxRecDepth 100000
set_option maxHeartbeats 4000000
open Go.RowKit
def mz(n:Int)(k:Nat):Bool:=decide (n=(2:Int)^k)
def lgN(n:Int):Nat:=oq (mz n) 0 13
def lgB(n:Int):Bool:=decide (lgN n<13)
def lgV(n:Int):Nat:=if lgN n<13 then lgN n else 0
theorem lg_hit(n:Int)(k:Nat)(hk:k<13)(hb:∀j,j<k->mz n j=false)(h:mz n k=true):lgB n=true/\lgV n=k:=by
 obtain⟨a,b,c,d⟩:=j8 (mz n) 13 0;have e:lgN n=k:=by
  unfold lgN;rcases Nat.lt_trichotomy (oq (mz n) 0 13) k with hl|hl|hl
  ·have:=c (by omega)
   rw[hb _ hl]at this;cases this
  ·exact hl
  ·rw[d k (by omega) hl]at h
   cases h
 unfold lgB lgV;rw[e,if_pos hk];exact⟨cw hk,rfl⟩
theorem lg_none(n:Int)(hb:∀j,j<13->mz n j=false):lgB n=false/\lgV n=0:=by
 obtain⟨a,b,c,d⟩:=j8 (mz n) 13 0;have e:¬(lgN n<13):=by
  intro hl;unfold lgN at hl;have:=c (by omega);rw[hb _ hl]at this;cases this
 unfold lgB lgV;rw[if_neg e];exact⟨bv e,rfl⟩
theorem pow2i(k:Nat)(hk:k<13):(1:Int)<=2^k/\(2:Int)^k<=4096/\wrap64 ((2:Int)^k)=2^k:=by
 have:k=0\/k=1\/k=2\/k=3\/k=4\/k=5\/k=6\/k=7\/k=8\/k=9\/k=10\/k=11\/k=12:=by omega
 rcases this with rfl|rfl|rfl|rfl|rfl|rfl|rfl|rfl|rfl|rfl|rfl|rfl|rfl<;>decide+kernel
theorem pg(n:Int)(w:World):
 Calls prog 48 #[.int .i64 n] w fun e w'=>e=.returned (.tuple #[.int .i64 (lgV n:Nat),.bool (lgB n)])/\Below w.heap.size w w':=by
 have hh:=aa (lg_hit n);have hn:=aa (lg_none n);generalize lgB n=B at hh hn;generalize lgV n=V at hh hn;go_enter func48,ntmps48;go_wp2_with fail
 go_loopw[5] (fun i wr=>∃k:Nat,k<=13/\i=.int .i64 k/\Hid (∀j,j<k->mz n j=false)/\fo w wr) (fun i _=>13-(intOf i).toNat)
 case atStart=>exact⟨0,by omega,rfl,aa (fun j h=>by omega),fo.refl _⟩
 case round=>
  obtain⟨k,hk,rfl,hno,hO⟩:=hrel;have HO:=aa hO;clear hO;by_cases hlt:k<13
  ·have hlti:(k:Int)<13:=by omega
   have hk0:(0:Int)<=k:=by omega
   obtain⟨hp1,hp2,hp3⟩:=pow2i k hlt;cases hq:mz n k
   ·have hne:(n==(2:Int)^k)=false:=by unfold mz at hq;simpa using hq
    have HN2:Hid (∀j,j<k+1->mz n j=false):=aa fun j h2=>by
     by_cases hj:j<k
     ·exact hno.out j hj
     ·obtain rfl:j=k:=by omega
      exact hq
    clear hq;go_wp2;exact⟨⟨k+1,by omega,by go_num,HN2,HO.out⟩,by simp[intOf];omega⟩
   ·have hne:(n==(2:Int)^k)=true:=by unfold mz at hq;simpa using hq
    obtain⟨e1,e2⟩:=hh.out k hlt hno.out hq;have E1:=aa e1;have E2:=aa e2;clear hq hh hn e1 e2;go_wp2;go_ret2
    rw[E1.out,E2.out];exact⟨rfl,HO.out.2.2.2⟩
  ·obtain rfl:k=13:=by omega
   obtain⟨e1,e2⟩:=hn.out hno.out;have E1:=aa e1;have E2:=aa e2;clear hh hn e1 e2;go_wp2;go_ret2
   rw[E1.out,E2.out];exact⟨rfl,HO.out.2.2.2⟩
end
section
set_option maxRecDepth 100000
set_option maxHeartbeats 4000000
open Go.RowKit
theorem ake{n:Int}(h:lgB n=true):1<=n/\n<=4096:=by
 unfold lgB at h;rw[cg]at h;have hc:=(j8 (mz n) 13 0).2.2.1 (by unfold lgN at h;omega);obtain⟨a,b,-⟩:=pow2i (lgN n) h;change mz n (lgN n)=true at hc;generalize lgN n=k at a b hc;unfold mz at hc;rw[cg]at hc;omega
theorem aq5(n:Int):lgV n<=12:=by unfold lgV;split<;>omega
def vn(m size:Int):Bool:=lgB size&&decide (m<=size)
def ux(m n size:Int):Int:=if vn m size then 3+6*((n-m)/(size-m+1)+1)else 0
theorem ry(m n:Int)(h1:1<=m)(h2:m<=n)(w:World):Calls prog 34 #[.int .i64 m,.int .i64 n] w fun e w'=>e=.returned (.bool true)/\Below w.heap.size w w':=by
 go_enter func34,ntmps34;go_wp2;go_ret;exact⟨rfl,ae⟩
theorem x6(m size:Int)(w:World):Calls prog 41 #[.int .i64 m,.int .i64 size] w fun e w'=>e=.returned (.bool (vn m size))/\Below w.heap.size w w':=by
 unfold vn;have hlg:=fun w=>pg size w
 generalize lgB size=B at hlg;generalize lgV size=V at hlg;have HL:=aa hlg;clear hlg;obtain⟨D,hD⟩:∃D,D=decide (m<=size):=⟨_,rfl⟩;rw[<-hD];cases B
 ·go_enter func41,ntmps41
  go_wp2_with(first|(go_at_call 48;refine(HL.out _).mono ?_;rintro e w1⟨rfl,hb1⟩))
  go_ret;exact⟨rfl,hb1⟩
 ·cases D
  ·have hD2:¬(m<=size):=by simpa using hD.symm
   have hD3:decide (m<=size)=false:=bv hD2;clear hD;go_enter func41,ntmps41;go_wp2_with(first|(go_at_call 48;refine(HL.out _).mono ?_;rintro e w1⟨rfl,hb1⟩))
   go_ret;exact⟨rfl,hb1⟩
  ·have hD2:m<=size:=by simpa using hD.symm
   clear hD;go_enter func41,ntmps41;go_wp2_with(first|(go_at_call 48;refine(HL.out _).mono ?_;rintro e w1⟨rfl,hb1⟩))
   go_ret;exact⟨rfl,hb1⟩
theorem yj(m n size:Int)(h1:1<=m)(h2:m<=n)(h3:m<=1000)(h4:n<=100000)(w:World):Calls prog 14 #[.int .i64 m,.int .i64 n,.int .i64 size] w fun e w'=>e=.returned (.int .i64 (ux m n size))/\Below w.heap.size w w':=by
 obtain⟨R,hR⟩:∃R,R=ux m n size:=⟨_,rfl⟩;rw[<-hR];have hmin:min n 1099511627776=n:=by omega
 have hmin2:n<=1099511627776:=by omega
 unfold ux at hR;cases hs:vn m size
 ·rw[hs]at hR
  obtain rfl:R=0:=hR;have HS:=aa hs;clear hs;go_enter func14,ntmps14;go_wp2_with(first|(go_at_call 34;refine(ry m n h1 h2 _).mono ?_;rintro e w1⟨rfl,hb1⟩)|(go_at_call 41;refine(x6 m size _).mono ?_;rw[HS.out];rintro e w2⟨rfl,hb2⟩))
  go_ret;exact⟨rfl,hb1.trans (hb2.mono hb1.size)⟩
 ·rw[hs]at hR
  have HS:=aa hs;have hR':R=3+6*((n-m)/(size-m+1)+1):=hR;have hsz:1<=size/\size<=4096/\m<=size:=by
   unfold vn at hs;rw[ce,cg]at hs;obtain⟨a,b⟩:=ake hs.1;exact⟨a,b,hs.2⟩
  obtain⟨s1,s2,s3⟩:=hsz;obtain⟨q,hq⟩:∃q,q=(n-m)/(size-m+1):=⟨_,rfl⟩;have hq0:0<=q:=by rw[hq];exact Int.ediv_nonneg (by omega) (by omega)
  have hq1:q<=100000:=by rw[hq];exact Int.le_trans (Int.ediv_le_self _ (by omega)) (by omega)
  rw[<-hq]at hR';have HR:=aa hR';clear hR hR' hs;go_enter func14,ntmps14;go_wp2_with(first|(go_at_call 34;refine(ry m n h1 h2 _).mono ?_;rintro e w1⟨rfl,hb1⟩)|(go_at_call 41;refine(x6 m size _).mono ?_;rw[HS.out];rintro e w2⟨rfl,hb2⟩))
  go_ret;rw[HR.out,hq];exact⟨rfl,hb1.trans (hb2.mono hb1.size)⟩
end
section
set_option maxRecDepth 100000
set_option maxHeartbeats 4000000
open Go.RowKit
def prF(f:Nat->Nat):Nat->Nat
 |0=>0
 |k+1=>prF f k+(if 3<=f k then 1 else 0)
def prR(f:Nat->Nat):Nat->Nat
 |0=>0
 |k+1=>prR f k+(if 3<=f k then 0 else f k)
theorem ap8(f:Nat->Nat)(k:Nat):prF f k<=k:=by
 induction k with
 |zero=>exact ac
 |succ k ih=>simp only[prF];split<;>omega
theorem ap7(f:Nat->Nat)(k:Nat):prR f k<=2*k:=by
 induction k with
 |zero=>exact ac
 |succ k ih=>simp only[prR];split<;>omega
def wl(L:Nat->Nat->Bool)(n j:Nat):Nat:=(im (gc (fa L n) j) L n).length
def frq(L:Nat->Nat->Bool)(n:Nat):Nat:=prF (wl L n) (fa L n).length
def rst(L:Nat->Nat->Bool)(n:Nat):Nat:=prR (wl L n) (fa L n).length
theorem arw(L:Nat->Nat->Bool)(n:Nat):frq L n<=n:=ba (ap8 _ _) (iu L n)
theorem rst_le(L:Nat->Nat->Bool)(n:Nat):rst L n<=2*n:=ba (ap7 _ _) (Nat.mul_le_mul_left 2 (iu L n))
theorem acl(ad:Option Addr)(n cap:Nat)(K:Int)(L:Nat->Nat->Bool)(hn:(n:Int)<=1000)(w:World)(hR:fm w ad n L w.heap.size):
 Calls prog 137 #[lv ad n cap K] w fun e w'=>e=.returned (.tuple #[.int .i64 (frq L n:Nat),.int .i64 (rst L n:Nat)])/\Below w.heap.size w w':=by
 have hl:=fk.new w ad n cap K;have HB:Below w.heap.size w (w.alloc (.cells #[.slice ad n cap,.int .i64 K] 52)):=ae.alloc ac _;have hR0:=(hR.below HB ac).mono HB.size;obtain⟨FR,hFR⟩:∃x,x=frq L n:=⟨_,rfl⟩;obtain⟨RS,hRS⟩:∃x,x=rst L n:=⟨_,rfl⟩;rw[<-hFR,<-hRS];have HF:Hid (FR=prF (wl L n) (fa L n).length):=aa hFR;have HS:Hid (RS=prR (wl L n) (fa L n).length):=aa hRS;clear hFR hRS;go_enter func137,ntmps137;go_wp2_with fail
 refine(um ad n cap K L (by omega) _ hR0).mono ?_;rintro e w2⟨v2,rfl,ho2,hb2⟩;obtain⟨adk,cpk,rfl⟩:=ey ho2;have hl2:=hl.below hb2 hl.2.2;have hR2:=(hR0.below hb2 ac).mono hb2.size;have HB2:=HB.trans (hb2.mono HB.size);have hRk:=o7 ho2;have hkl:=iu L n;have hwln:∀j,wl L n j<=n:=fun j=>by unfold wl;rw[pr];exact ur _ _
 have hwld:∀j,wl L n j=(im (gc (fa L n) j) L n).length:=fun j=>rfl
 generalize wl L n=f at HF HS hwln hwld;have HWD:=aa hwld;have HWN:=aa hwln;obtain⟨m,hm⟩:∃m,m=(fa L n).length:=⟨_,rfl⟩;rw[<-hm]at hRk hkl HF HS⊢;clear hm hwln hwld ho2 hb2 hl hR0 HB;go_wp2_with fail
 go_loopw[4,5,12] (fun a b i wr=>∃q:Nat,q<=m/\i=.int .i64 q/\a=.int .i64 (prF f q:Nat)/\b=.int .i64 (prR f q:Nat)/\fo w2 wr) (fun _ _ i _=>m-(intOf i).toNat)
 case atStart=>exact⟨0,by omega,rfl,rfl,rfl,fo.refl _⟩
 case round=>
  obtain⟨q,hq,rfl,rfl,rfl,hO⟩:=hrel;have hlq:=hl2.below hO.2.2.2 hl2.2.2;have hRq:=(hR2.below hO.2.2.2 ac).mono hO.2.2.1;have hRkq:=(hRk.below hO.2.2.2 ac).mono hO.2.2.1;have hf1:=ap8 f q;have hf2:=ap7 f q;have hf3:=HWN.out q;obtain⟨c0,c1,cl⟩:=hlq;have HO:=aa hO;clear hO hl2 hR2 hRk;by_cases hlt:q<m
  ·obtain⟨b,o,rfl,hbm,e0,e1,e2,e3⟩:=hRkq.at hlt
   have hlti:(q:Int)<m:=by omega
   have hA:Below wr.heap.size wr (wr.alloc (.cells #[.int .u64 (wd (gc (fa L n) q) 0:Nat),.int .u64 (wd (gc (fa L n) q) 1:Nat),.int .u64 (wd (gc (fa L n) q) 2:Nat),.int .u64 (wd (gc (fa L n) q) 3:Nat)] 100)):=ae.alloc ac _;have hRA:=(hRq.below hA ac).mono hA.size;have hs1:prF f (q+1)=prF f q+(if 3<=f q then 1 else 0):=rfl;have hs2:prR f (q+1)=prR f q+(if 3<=f q then 0 else f q):=rfl;have hwp:=aa (fun w' h'=>q9 (some ⟨b,o,none⟩) n cap K L (gc (fa L n) q) (by omega) w' h');clear hwp;have hwq:=HWD.out q;have HA:=aa hA;clear hA hRq hRkq;by_cases h3:3<=f q
   ·rw[if_pos h3]at hs1 hs2
    have h3i:(3:Int)<=(f q:Nat):=by omega
    have HS1:=aa hs1;have HS2:=aa hs2;clear hs1 hs2;go_wp2_with(go_at_call 180;refine(q9 ad n cap K L (gc (fa L n) q) (by omega) _ hRA).mono ?_;rw[<-hwq];rintro e w4⟨v4,rfl,ho4,hb4⟩;obtain⟨adw,cpw,rfl⟩:=ey ho4)
    exact⟨⟨q+1,by omega,by go_num,by rw[HS1.out];go_num,by rw[HS2.out,Nat.add_zero],HO.out.trans (fo.of (HA.out.trans (hb4.mono HA.out.size)))⟩,by simp[intOf];omega⟩
   ·rw[if_neg h3]at hs1 hs2
    have h3i:¬((3:Int)<=(f q:Nat)):=by omega
    have HS1:=aa hs1;have HS2:=aa hs2;have hw:IntKind.i64.wrap (((prR f q:Nat):Int)+(f q:Nat))=((prR f q:Nat):Int)+(f q:Nat):=by rw[ci];omega
    clear hs1 hs2;go_wp2_with(go_at_call 180;refine(q9 ad n cap K L (gc (fa L n) q) (by omega) _ hRA).mono ?_;rw[<-hwq];rintro e w4⟨v4,rfl,ho4,hb4⟩;obtain⟨adw,cpw,rfl⟩:=ey ho4)
    exact⟨⟨q+1,by omega,by go_num,by rw[HS1.out,Nat.add_zero],by rw[HS2.out];go_num,HO.out.trans (fo.of (HA.out.trans (hb4.mono HA.out.size)))⟩,by simp[intOf];omega⟩
  ·obtain rfl:q=m:=by omega
   go_wp2;go_ret2
   rw[HF.out,HS.out];exact⟨rfl,HB2.trans (HO.out.2.2.2.mono HB2.size)⟩
end
section
set_option maxRecDepth 100000
set_option maxHeartbeats 4000000
open Go.RowKit
def rr(way K:Int)(L:Nat->Nat->Bool)(n:Nat):Bool:=
 fv n L K&&(if way=1\/way=4 then true else if way=2 then jh L n&&decide (K=0)else if way=3 then ki L n&&decide (K=0)else decide (way=5)&&ki L n)
theorem aji{way K:Int}{L:Nat->Nat->Bool}{n:Nat}(h:fv n L K=false):rr way K L n=false:=by unfold rr;rw[h];rfl
theorem adm_1{K:Int}{L:Nat->Nat->Bool}{n:Nat}(h:fv n L K=true):rr 1 K L n=true:=by unfold rr;rw[h,if_pos (.inl rfl)];rfl
theorem adm_2{K:Int}{L:Nat->Nat->Bool}{n:Nat}(h:fv n L K=true):rr 2 K L n=(jh L n&&decide (K=0)):=by unfold rr;rw[h,if_neg (by decide),if_pos rfl];rfl
theorem adm_3{K:Int}{L:Nat->Nat->Bool}{n:Nat}(h:fv n L K=true):rr 3 K L n=(ki L n&&decide (K=0)):=by unfold rr;rw[h,if_neg (by decide),if_neg (by decide),if_pos rfl];rfl
theorem adm_5{K:Int}{L:Nat->Nat->Bool}{n:Nat}(h:fv n L K=true):rr 5 K L n=ki L n:=by unfold rr;rw[h,if_neg (by decide),if_neg (by decide),if_neg (by decide)];rfl
theorem abu(way:Int)(ad:Option Addr)(n cap:Nat)(K:Int)(L:Nat->Nat->Bool)(hn:(n:Int)<=1000)(w:World)(hR:fm w ad n L w.heap.size):
 Calls prog 76 #[.int .i64 way,lv ad n cap K] w fun e w'=>e=.returned (.bool (rr way K L n))/\Below w.heap.size w w':=by
 have hl:=fk.new w ad n cap K;have HB:Below w.heap.size w (w.alloc (.cells #[.slice ad n cap,.int .i64 K] 52)):=ae.alloc ac _;have hR0:=(hR.below HB ac).mono HB.size;obtain⟨R,hRV⟩:∃x,x=rr way K L n:=⟨_,rfl⟩;rw[<-hRV];cases hri:fv n L K
 ·obtain rfl:R=false:=by rw[hRV];exact aji hri
  clear hRV;go_enter func76,ntmps76;go_wp2_with fail
  refine(jn ad n cap K L (by omega) _ hR0).mono ?_;rw[hri];rintro e w1⟨rfl,hb1⟩;go_wp2;go_ret;exact⟨rfl,HB.trans (hb1.mono HB.size)⟩
 ·have HRI:=aa hri
  have hkk:(decide (K=0))=true\/decide (K=0)=false:=by cases decide (K=0)<;>simp
  have start:∀(way':Int)(R':Bool)(bl bp:Bool),bl=jh L n->bp=ki L n->(R'=if way'=1\/way'=4 then true else if way'=2 then bl&&decide (K=0)else if way'=3 then bp&&decide (K=0)else decide (way'=5)&&bp)→
   Calls prog 76 #[.int .i64 way',lv ad n cap K] w fun e w'=>e=.returned (.bool R')/\Below w.heap.size w w':=by
   intro way' R' bl bp hbl hbp hRR;have HBL:=aa hbl;have HBP:=aa hbp;clear hbl hbp hri hRV;have go:∀(Q:Bool->Prop),Q R'->Q R':=fun _ h=>h
   clear go;by_cases h1:way'=1\/way'=4;focus
    rw[if_pos h1]at hRR;rcases h1 with rfl|rfl
   rotate_left 2
   rw[if_neg h1]at hRR;by_cases h2:way'=2;focus
    subst h2;rw[if_pos rfl]at hRR;cases bl;focus rw[Bool.false_and]at hRR
    rotate_left
    rw[Bool.true_and]at hRR;by_cases hk0:K=0;focus
     rw[cw hk0]at hRR;subst hk0
    rotate_left
    rw[bv hk0]at hRR;have hk1:(K==0)=false:=by rw[ax];exact hk0
   rotate_left 3
   rw[if_neg h2]at hRR;by_cases h3:way'=3;focus
    subst h3;rw[if_pos rfl]at hRR;cases bp;focus rw[Bool.false_and]at hRR
    rotate_left
    rw[Bool.true_and]at hRR;by_cases hk0:K=0;focus
     rw[cw hk0]at hRR;subst hk0
    rotate_left
    rw[bv hk0]at hRR;have hk1:(K==0)=false:=by rw[ax];exact hk0
   rotate_left 3
   rw[if_neg h3]at hRR;by_cases h5:way'=5;focus
    subst h5;rw[cw rfl,Bool.true_and]at hRR
   rotate_left
   focus
    rw[bv h5,Bool.false_and]at hRR;have e1:(way'==1)=false:=by rw[ax];omega
    have e2:(way'==2)=false:=by rw[ax];exact h2
    have e3:(way'==3)=false:=by rw[ax];exact h3
    have e4:(way'==4)=false:=by rw[ax];omega
    have e5:(way'==5)=false:=by rw[ax];exact h5
   all_goals
    subst hRR;go_enter func76,ntmps76;go_wp2_with fail
    refine(jn ad n cap _ L (by omega) _ hR0).mono ?_;rw[HRI.out];rintro e w1⟨rfl,hb1⟩;have hl1:=hl.below hb1 hl.2.2;have hR1:=(hR0.below hb1 ac).mono hb1.size;have HB1:=HB.trans (hb1.mono HB.size);clear hl HB hR0 hb1 hR;obtain⟨c0,c1,cl⟩:=id hl1;go_wp2_with fail
    refine(yx ad n cap _ L (by omega) _ hR1).mono ?_;rw[<-HBL.out];rintro e w2⟨rfl,hb2⟩;have hl2:=hl1.below hb2 hl1.2.2;have hR2:=(hR1.below hb2 ac).mono hb2.size;have HB2:=HB1.trans (hb2.mono HB1.size);clear hl1 hR1 HB1 hb2 c0 c1 cl;generalize zj L n=tx;obtain⟨c0,c1,cl⟩:=id hl2;go_wp2_with(first|(go_at_call 136;refine(yb ad n cap _ L (by omega) _ hR2).mono ?_;rw[<-HBP.out];rintro e w3⟨rfl,hb3⟩;have c1:w3.cell? ⟨w.heap.size,1,none⟩=some (.int .i64 _):=(hb3.cell (p:=⟨w.heap.size,1,none⟩) cl).trans c1))
    try rw[Exit.noGoto_ret]
    go_ret;exact⟨rfl,by first|exact HB2.trans (hb3.mono HB2.size)|exact HB2⟩
  refine start way R (jh L n) (ki L n) rfl rfl ?_;rw[hRV];unfold rr;rw[hri,Bool.true_and]
end
section
set_option maxRecDepth 100000
set_option maxHeartbeats 4000000
open Go.RowKit
def frB(way:Int)(L:Nat->Nat->Bool)(n:Nat):Bool:=decide (way=1)||(decide (way=2)||(decide (way=5)&&decide (frq L n=0)))
def s6(way nn size K:Int)(L:Nat->Nat->Bool)(n:Nat):Bool:=rr way K L n&&(frB way L n||(decide (nn<n)||vn n size))
theorem ac4(way:Int)(ad:Option Addr)(n cap:Nat)(K:Int)(L:Nat->Nat->Bool)(hn:(n:Int)<=1000)(nn size:Int)(w:World)(hR:fm w ad n L w.heap.size):
 Calls prog 77 #[.int .i64 way,lv ad n cap K,.int .i64 nn,.int .i64 size] w fun e w'=>e=.returned (.bool (s6 way nn size K L n))/\Below w.heap.size w w':=by
 have hl:=fk.new w ad n cap K;have HB:Below w.heap.size w (w.alloc (.cells #[.slice ad n cap,.int .i64 K] 52)):=ae.alloc ac _;have hR0:=(hR.below HB ac).mono HB.size;have ha:=fun w' h'=>abu way ad n cap K L hn w' h'
 have hp:=fun w' h'=>acl ad n cap K L hn w' h'
 have hfl:=arw L n;obtain⟨R,hRV⟩:∃x,x=s6 way nn size K L n:=⟨_,rfl⟩;rw[<-hRV];unfold s6 frB at hRV;generalize rr way K L n=A at ha hRV;generalize frq L n=F at hp hfl hRV;generalize rst L n=RS at hp;have HA:=aa ha;have HP:=aa hp;clear ha hp;by_cases h1:way=1;focus
  subst h1;rw[cw rfl,Bool.true_or,Bool.true_or]at hRV;cases A;all_goals first|rw[Bool.false_and]at hRV|rw[Bool.true_and]at hRV
 rotate_left 2
 rw[bv h1,Bool.false_or]at hRV;have e1:(way==1)=false:=by rw[ax];exact h1
 by_cases h2:way=2;focus
  subst h2;rw[cw rfl,Bool.true_or,Bool.true_or]at hRV;cases A;all_goals first|rw[Bool.false_and]at hRV|rw[Bool.true_and]at hRV
 rotate_left 2
 rw[bv h2,Bool.false_or]at hRV;have e2:(way==2)=false:=by rw[ax];exact h2
 have e5:way=5/\F=0\/(way=5/\(((F:Nat):Int)==0)=false\/(way==5)=false)/\(decide (way=5)&&decide (F=0))=false:=by
  by_cases h5:way=5
  ·by_cases hF:F=0
   ·exact .inl ⟨h5,hF⟩
   ·exact .inr ⟨.inl ⟨h5,by rw[ax];omega⟩,by simp[hF]⟩
  ·exact .inr ⟨.inr (by rw[ax];exact h5),by simp[h5]⟩
 obtain⟨rfl,rfl⟩|⟨e5,e6⟩:=e5
 focus
  rw[cw rfl,Bool.true_and,cw rfl,Bool.true_or]at hRV;cases A;all_goals first|rw[Bool.false_and]at hRV|rw[Bool.true_and]at hRV
 rotate_left 2
 focus
  rw[e6,Bool.false_or]at hRV;clear e6;cases A;focus rw[Bool.false_and]at hRV
  rotate_left
  rw[Bool.true_and]at hRV;by_cases hgt:nn<n;focus
   rw[cw hgt,Bool.true_or]at hRV;have hgt2:¬((n:Int)<=nn):=by omega
  rotate_left
  rw[bv hgt,Bool.false_or]at hRV;have hle:(n:Int)<=nn:=by omega
  have hle2:decide (nn<(n:Int))=false:=bv hgt;unfold vn at hRV;cases hlb:lgB size;focus rw[hlb,Bool.false_and]at hRV
  rotate_left
  rw[hlb,Bool.true_and]at hRV;by_cases hsz:(n:Int)<=size;focus rw[cw hsz]at hRV
  rotate_left
  rw[bv hsz]at hRV;have hsz2:decide ((n:Int)<=size)=false:=bv hsz;all_goals rcases e5 with⟨rfl,e3⟩|e4
 all_goals
  first|have HL:=aa hlb|have HL:Hid (lgB size=lgB size):=aa rfl
  try clear hlb
  have HR:=aa hRV;clear hRV;go_enter func77,ntmps77;go_wp2_with(first|(go_at_call 48;refine(pg size _).mono ?_;rw[HL.out];(try generalize lgB size=B at *);rintro e w1⟨rfl,hb1⟩;obtain⟨c0,c1,cl⟩:=hl.below hb1 hl.2.2))
  have hl1:fk w1 w.heap.size ad n cap K:=⟨c0,c1,cl⟩;have hR1:=(hR0.below hb1 ac).mono hb1.size;have HB1:=HB.trans (hb1.mono HB.size);clear hl HB hR0 hb1 hR c0 c1 cl;refine(HP.out _ hR1).mono ?_;rintro e w2⟨rfl,hb2⟩;have hl2:=hl1.below hb2 hl1.2.2;have hR2:=(hR1.below hb2 ac).mono hb2.size;have HB2:=HB1.trans (hb2.mono HB1.size);clear hl1 hR1 HB1 hb2;obtain⟨c0,c1,cl⟩:=id hl2;go_wp2_with(first|(go_at_call 76;refine(HA.out _ hR2).mono ?_;rintro e w3⟨rfl,hb3⟩))
  go_ret;exact⟨by rw[HR.out];rfl,HB2.trans (hb3.mono HB2.size)⟩
end
section
set_option maxRecDepth 100000
set_option maxHeartbeats 4000000
open Go.RowKit
theorem vx{a b A B:Int}(ha:0<=a)(hA:a<=A)(hb:0<=b)(hB:b<=B):0<=a*b/\a*b<=A*B:=
 ⟨Int.mul_nonneg ha hb,Int.mul_le_mul hA hB hb (Int.le_trans ha hA)⟩
def cs1(m N:Int):Int:=m*(N-m+1)
def cs2(m N:Int):Int:=4*(N+m)
def cs3(x N:Int):Int:=2*x+4*N
def cs4(x N k:Int):Int:=(x+N)*k+N
def cs5(x N f r:Int):Int:=(x+N)*f+N*r+N
theorem ant(bm bn:Nat)(m N:Int)(hm:0<=m)(hm2:m<=1000)(hN:m<=N)(hN2:N<=100000)(w:World)(c0:w.cell? ⟨bm,0,none⟩=some (.int .i64 m))(c1:w.cell? ⟨bn,0,none⟩=some (.int .i64 N)):
 Calls prog 243 #[.pointer (some ⟨bm,0,none⟩),.pointer (some ⟨bn,0,none⟩)] w fun e w'=>e=.returned (.int .i64 (cs1 m N))/\Below w.heap.size w w':=by
 have hp:=vx hm hm2 (show 0<=N-m+1 by omega) (show N-m+1<=100001 by omega);unfold cs1;have hw:IntKind.i64.wrap (m*(N-m+1))=m*(N-m+1):=by rw[ci];omega
 go_enter func243,ntmps243;go_wp2;go_ret;exact⟨rfl,ae⟩
theorem ans(bm bn:Nat)(m N:Int)(hm:0<=m)(hm2:m<=1000)(hN:m<=N)(hN2:N<=100000)(w:World)(c0:w.cell? ⟨bm,0,none⟩=some (.int .i64 m))(c1:w.cell? ⟨bn,0,none⟩=some (.int .i64 N)):
 Calls prog 244 #[.pointer (some ⟨bn,0,none⟩),.pointer (some ⟨bm,0,none⟩)] w fun e w'=>e=.returned (.int .i64 (cs2 m N))/\Below w.heap.size w w':=by
 unfold cs2;go_enter func244,ntmps244;go_wp2;go_ret;exact⟨rfl,ae⟩
theorem anr(bx bn:Nat)(x N:Int)(hx:0<=x)(hx2:x<=100000000000)(hN:0<=N)(hN2:N<=100000)(w:World)(c0:w.cell? ⟨bx,0,none⟩=some (.int .i64 x))(c1:w.cell? ⟨bn,0,none⟩=some (.int .i64 N)):
 Calls prog 245 #[.pointer (some ⟨bx,0,none⟩),.pointer (some ⟨bn,0,none⟩)] w fun e w'=>e=.returned (.int .i64 (cs3 x N))/\Below w.heap.size w w':=by
 unfold cs3;go_enter func245,ntmps245;go_wp2;go_ret;exact⟨rfl,ae⟩
theorem anp(bx bn bf br:Nat)(x N f r:Int)(hx:0<=x)(hx2:x<=100000000000)(hN:0<=N)(hN2:N<=100000)(hf:0<=f)(hf2:f<=1000)(hr:0<=r)(hr2:r<=2000)(w:World)(c0:w.cell? ⟨bx,0,none⟩=some (.int .i64 x))(c1:w.cell? ⟨bn,0,none⟩=some (.int .i64 N))(c2:w.cell? ⟨bf,0,none⟩=some (.int .i64 f))(c3:w.cell? ⟨br,0,none⟩=some (.int .i64 r)):
 Calls prog 247 #[.pointer (some ⟨bx,0,none⟩),.pointer (some ⟨bn,0,none⟩),.pointer (some ⟨bf,0,none⟩),.pointer (some ⟨br,0,none⟩)] w fun e w'=>e=.returned (.int .i64 (cs5 x N f r))/\Below w.heap.size w w':=by
 have hp:=vx (show 0<=x+N by omega) (show x+N<=100000100000 by omega) hf hf2;have hq:=vx hN hN2 hr hr2;unfold cs5;have hw:IntKind.i64.wrap ((x+N)*f)=(x+N)*f:=by rw[ci];omega
 have hw2:IntKind.i64.wrap (N*r)=N*r:=by rw[ci];omega
 have hw3:IntKind.i64.wrap ((x+N)*f+N*r)=(x+N)*f+N*r:=by rw[ci];omega
 have hw4:IntKind.i64.wrap ((x+N)*f+N*r+N)=(x+N)*f+N*r+N:=by rw[ci];omega
 go_enter func247,ntmps247;go_wp2;go_ret;exact⟨rfl,ae⟩
theorem anq(bx bn bl:Nat)(x N:Int)(hx:0<=x)(hx2:x<=100000000000)(hN:0<=N)(hN2:N<=100000)(ad:Option Addr)(n cap:Nat)(K:Int)(L:Nat->Nat->Bool)(hn:(n:Int)<=1000)(w:World)(hR:fm w ad n L w.heap.size)(hl:fk w bl ad n cap K)(q0:w.cell? ⟨bx,0,none⟩=some (.int .i64 x))(q1:w.cell? ⟨bn,0,none⟩=some (.int .i64 N))(l0:bx<w.heap.size)(l1:bn<w.heap.size):
 Calls prog 246 #[.pointer (some ⟨bx,0,none⟩),.pointer (some ⟨bn,0,none⟩),.pointer (some ⟨bl,0,none⟩)] w fun e w'=>e=.returned (.int .i64 (cs4 x N ((fa L n).length:Nat)))/\Below w.heap.size w w':=by
 have hkl:=iu L n;have hk:=fun w' h'=>um ad n cap K L (by omega) w' h'
 generalize hkk:fa L n=kk at hk hkl;have HK:=aa hk;clear hk hkk;obtain⟨k,hke⟩:∃k,k=kk.length:=⟨_,rfl⟩;rw[<-hke]at hkl HK⊢;have hp:=vx (show 0<=x+N by omega) (show x+N<=100000100000 by omega) (show(0:Int)<=(k:Nat) by omega) (show((k:Nat):Int)<=1000 by omega);unfold cs4;have hw:IntKind.i64.wrap ((x+N)*k)=(x+N)*k:=by rw[ci];omega
 have hw4:IntKind.i64.wrap ((x+N)*k+N)=(x+N)*k+N:=by rw[ci];omega
 have hw0:IntKind.i64.wrap (x+N)=x+N:=by rw[ci];omega
 obtain⟨c0,c1,cl⟩:=hl;clear hke;go_enter func246,ntmps246;go_wp2_with fail
 go_region_held3 (fun w'=>fo w w') (first|with_reducible exact fo.start _|with_reducible exact fo.calld (fo.refl _) (by assumption)|with_reducible exact fo.call (by assumption) (by assumption)) (first|(go_at_call 179;refine(HK.out _ ((hR.below (show fo w _ by with_reducible assumption).2.2.2 ac).mono (show fo w _ by with_reducible assumption).2.2.1)).mono ?_;rintro e w4⟨v4,rfl,ho4,hb4⟩;obtain⟨adw,cpw,rfl⟩:=ey ho4))
 all_goals go_wp2
 all_goals go_ret
 all_goals exact⟨rfl,(show fo w _ by assumption).2.2.2⟩
end
section
set_option maxRecDepth 100000
set_option maxHeartbeats 8000000
open Go.RowKit
theorem Boxed.low{W W':World}{B n:Nat}{t:TypeId}{v:Value}(h:Boxed W B t v)(hb:Below n W W')(hn:B<n):Boxed W' B t v:=(hb.block B hn).trans h
theorem fk.grw{w w':World}{B b n cap:Nat}{ad:Option Addr}{K:Int}(h:fk w B ad n cap K)(hg:w.grownBy w' (some b))(hne:B≠b):fk w' B ad n cap K:=by
 have hk:=hg.block B h.2.2 (fun e=>hne (by cases e;rfl));obtain⟨h0,h1,h2⟩:=h;refine⟨?_,?_,az h2 hg.size⟩
 ·rw[<-h0];unfold World.cell?;rw[hk]
 ·rw[<-h1];unfold World.cell?;rw[hk]
def xV(m N size:Int):Int:=ux m N size*size*((lgV size:Nat)+1)
theorem ael{m N size:Int}(hm:1<=m)(hN:m<=N)(hN2:N<=100000):(0<=ux m N size*size/\ux m N size*size<=700000*4096)/\0<=ux m N size:=by
 unfold ux;cases hs:vn m size
 ·rw[if_neg (by decide),Int.zero_mul];omega
 ·rw[if_pos rfl]
  unfold vn at hs;rw[ce,cg]at hs;obtain⟨a,b⟩:=ake hs.1;have c:=hs.2;have q0:0<=(N-m)/(size-m+1):=Int.ediv_nonneg (by omega) (by omega);have q1:(N-m)/(size-m+1)<=100000:=Int.le_trans (Int.ediv_le_self _ (by omega)) (by omega);generalize (N-m)/(size-m+1)=q at q0 q1;have:=vx (show 0<=3+6*(q+1) by omega) (show 3+6*(q+1)<=700000 by omega) (show 0<=size by omega) b;exact⟨this,by omega⟩
theorem xV_in{m N size:Int}(hm:1<=m)(hN:m<=N)(hN2:N<=100000):0<=xV m N size/\xV m N size<=100000000000:=by
 obtain⟨⟨h1,h2⟩,-⟩:=ael (size:=size) hm hN hN2;have hl:=aq5 size;unfold xV;have:=vx h1 h2 (show(0:Int)<=(lgV size:Nat)+1 by omega) (show((lgV size:Nat):Int)+1<=13 by omega);omega
def csW(way m N x k f r:Int):Int:=if way=1 then cs1 m N else if way=2 then cs2 m N else if way=3 then cs3 x N else if way=4 then cs4 x N k else cs5 x N f r
def agk(way nn size:Int)(L:Nat->Nat->Bool)(n:Nat):Int:=
 if(n:Int)<=min nn 100000 then csW way n (min nn 100000) (xV n (min nn 100000) size) ((fa L n).length:Nat) (frq L n:Nat) (rst L n:Nat)else 0
theorem akv{way K:Int}{L:Nat->Nat->Bool}{n:Nat}(h:rr way K L n=true):(1<=n/\n<=64)/\1<=way/\way<=5:=by
 unfold rr at h;rw[ce]at h;have hr:=h.1;unfold fv at hr;simp only[ce,cg]at hr;refine⟨⟨hr.1,hr.2.1⟩,?_⟩;have h2:=h.2;by_cases e1:way=1\/way=4
 ·omega
 ·rw[if_neg e1]at h2
  by_cases e2:way=2
  ·omega
  ·rw[if_neg e2]at h2
   by_cases e3:way=3
   ·omega
   ·rw[if_neg e3,ce,cg]at h2
    omega
theorem sd_rng{way nn size K:Int}{L:Nat->Nat->Bool}{n:Nat}(h:s6 way nn size K L n=true):(1<=n/\n<=64)/\1<=way/\way<=5:=by
 unfold s6 at h;rw[ce]at h;exact akv h.1
theorem ar9(way:Int)(ad:Option Addr)(n cap:Nat)(K:Int)(L:Nat->Nat->Bool)(hn:(n:Int)<=1000)(nn size:Int)(w:World)(hR:fm w ad n L w.heap.size):
 Calls prog 242 #[.int .i64 way,lv ad n cap K,.int .i64 nn,.int .i64 size] w fun e w'=>e=.returned (.tuple #[.int .i64 (if s6 way nn size K L n then agk way nn size L n else 0),.bool (s6 way nn size K L n)])/\Below w.heap.size w w':=by
 have hl:=fk.new w ad n cap K;have hl0:=hl.below ((ae.alloc ac (.cells #[.int .i64 nn] 3)):Below _ _ ((w.alloc (.cells #[.slice ad n cap,.int .i64 K] 52)).alloc (.cells #[.int .i64 nn] 3))) hl.2.2;have hN0:=Boxed.new (w.alloc (.cells #[.slice ad n cap,.int .i64 K] 52)) 3 (.int .i64 nn);have HB:Below w.heap.size w ((w.alloc (.cells #[.slice ad n cap,.int .i64 K] 52)).alloc (.cells #[.int .i64 nn] 3)):=(ae.alloc ac _).alloc (by simp) _;have hR0:=hR.below HB ac;have hz0:((w.alloc (.cells #[.slice ad n cap,.int .i64 K] 52)).alloc (.cells #[.int .i64 nn] 3)).heap.size=w.heap.size+2:=by simp
 rw[bg]at hN0;have hs:=fun w' h'=>ac4 way ad n cap K L hn nn size w' h'
 cases hsd:s6 way nn size K L n
 ·rw[if_neg (by decide)]
  rw[hsd]at hs;have HS:=aa hs;clear hs hsd;go_enter func242,ntmps242;go_wp2_with(first|(go_at_call 77;refine(HS.out _ (hR0.mono HB.size)).mono ?_;rintro e w1⟨rfl,hb1⟩))
  go_ret2
  exact⟨rfl,HB.trans (hb1.mono HB.size)⟩
 ·rw[if_pos rfl]
  have hrg:=sd_rng hsd;rw[hsd]at hs;have HS:=aa hs;clear hs hsd;obtain⟨R,hRV⟩:∃R,R=agk way nn size L n:=⟨_,rfl⟩;rw[<-hRV];unfold agk at hRV;obtain⟨N,hN⟩:∃N,min nn 100000=N:=⟨_,rfl⟩;rw[hN]at hRV;have HCV:=aa hRV;clear hRV;obtain⟨⟨g1,g2⟩,g3,g4⟩:=hrg;have hrg:(1<=(n:Int)/\(n:Int)<=64)/\1<=way/\way<=5:=by omega
  have HNN:=aa hN;clear hN;go_enter func242,ntmps242;go_wp2_with fail
  refine(HS.out _ (hR0.mono HB.size)).mono ?_;rintro e w1⟨rfl,hb1⟩;have hl1:=hl0.below hb1 (by omega);have hN1:=Boxed.low hN0 hb1 (by omega);have hR1:=hR0.below hb1 (by omega);have hRw:=hR1;have HB1:=HB.trans (hb1.mono (by omega));have hz1:w.heap.size+2<=w1.heap.size:=by have:=hb1.size;omega
  have hN:=HNN.out;have hCV2:=HCV.out;clear hl hl0 hN0 hR0 hz0 hb1 HB HS HNN HCV hR;have n0:=Boxed.cell hN1;have n1:=Boxed.frozen hN1;obtain⟨c0,c1,cl⟩:=id hl1;have hle1:w.heap.size+1<w1.heap.size:=by omega
  have hMA:Below w1.heap.size (w1.setCell ⟨w.heap.size+1,0,none⟩ (.int .i64 N)) ((w1.setCell ⟨w.heap.size+1,0,none⟩ (.int .i64 N)).alloc (.cells #[.int .i64 n] 3)):=ae.alloc (by simp) _;have hgb:w1.grownBy (w1.setCell ⟨w.heap.size+1,0,none⟩ (.int .i64 N)) (some (w.heap.size+1)):=grownBy_setCell' w1 (w.heap.size+1) (.int .i64 N);have hB1:Below w.heap.size w1 (w1.setCell ⟨w.heap.size+1,0,none⟩ (.int .i64 N)):=ib hgb (by omega) (fun k hk=>by cases hk;omega);have hls:=fk.grw hl1 hgb (by omega);have hNs:=Boxed.set (.int .i64 N) hN1;have hRs:=hRw.below hB1 (by omega);have HBs:=HB1.trans hB1;have hm0:Boxed ((w1.setCell ⟨w.heap.size+1,0,none⟩ (.int .i64 N)).alloc (.cells #[.int .i64 n] 3)) w1.heap.size 3 (.int .i64 n):=by
   have:=Boxed.new (w1.setCell ⟨w.heap.size+1,0,none⟩ (.int .i64 N)) 3 (.int .i64 n);rwa[World.size_setCell]at this
  have hlA:=hls.below hMA (by omega);have hNA:=Boxed.low hNs hMA (by omega);have hRA:=hRs.below hMA (by omega);have HBA:=HBs.trans (hMA.mono (by omega));have hzA:((w1.setCell ⟨w.heap.size+1,0,none⟩ (.int .i64 N)).alloc (.cells #[.int .i64 n] 3)).heap.size=w1.heap.size+1:=by simp
  clear hgb hB1 hl1 hN1 hR1 HB1 hRw hMA hls hNs hRs HBs;obtain⟨bm,hbm⟩:∃bm,bm=w1.heap.size:=⟨_,rfl⟩;have HBM:=aa hbm;clear hbm;have hN2:N<=100000:=by rw[<-hN];exact Int.min_le_right _ _
  by_cases hnN:(n:Int)<=N
  ·by_cases h100:100000<nn
   all_goals
    first|have h1:N=100000:=by rw[<-hN];exact Int.min_eq_right (by omega)|have h1:N=nn:=by rw[<-hN];exact Int.min_eq_left (by omega)
    have h2:=hnN;rw[h1]at h2;go_wp2_with fail
    rw[<-h1];clear h1 h2 h100;have hbm:=HBM.out;rw[<-hbm]at hm0 hzA⊢;have q1:w.heap.size+1<bm:=by omega
    have HN':=aa hN;generalize ((w1.setCell ⟨w.heap.size+1,0,none⟩ (.int .i64 N)).alloc (.cells #[.int .i64 n] 3))=W2 at hlA hNA hRA HBA hzA hm0⊢;clear hbm HBM hle1 hz1 n0 n1 c0 c1 cl hN;refine(pg size _).mono ?_;rintro e w3⟨rfl,hb3⟩;have hl3:=hlA.below hb3 (by omega);have hN3:=Boxed.low hNA hb3 (by omega);have hm3:=Boxed.low hm0 hb3 (by omega);have hR3:=hRA.below hb3 (by omega);have HB3:=HBA.trans (hb3.mono (by omega));have hz3:bm<w3.heap.size:=by have:=hb3.size;omega
    clear hlA hNA hm0 hRA HBA hb3 hzA;obtain⟨c0,c1,cl⟩:=id hl3;have n0:=Boxed.cell hN3;have m0:=Boxed.cell hm3;go_wp2_with fail
    refine(yj (n:Int) N size (by omega) hnN (by omega) (by omega) _).mono ?_;rintro e w4⟨rfl,hb4⟩;have hl4:=hl3.below hb4 (by omega);have hN4:=Boxed.low hN3 hb4 (by omega);have hm4:=Boxed.low hm3 hb4 (by omega);have hR4:=hR3.below hb4 (by omega);have HB4:=HB3.trans (hb4.mono (by omega));have hz4:bm<w4.heap.size:=by have:=hb4.size;omega
    clear hl3 hN3 hm3 hR3 HB3 hb4 hz3 c0 c1 cl n0 m0;obtain⟨c0,c1,cl⟩:=id hl4;obtain⟨⟨x1,x2⟩,x3⟩:=ael (m:=n) (N:=N) (size:=size) (by omega) hnN (by omega);obtain⟨x4,x5⟩:=xV_in (m:=n) (N:=N) (size:=size) (by omega) hnN (by omega);have hxV:xV n N size=ux n N size*size*((lgV size:Nat)+1):=rfl;have hlv:=aq5 size;rw[hxV]at x4 x5;obtain⟨x,hx⟩:∃x,x=xV n N size:=⟨_,rfl⟩;rw[<-hx]at hxV;have hw1:IntKind.i64.wrap (ux n N size*size)=ux n N size*size:=by rw[ci];omega
    have hw2:IntKind.i64.wrap (ux n N size*size*((lgV size:Nat)+1))=x:=by rw[ci,hxV];omega
    rw[<-hxV]at x4 x5;rw[<-hx]at hCV2;have HXV:=aa hxV;clear hxV hx;have hx0:=Boxed.new w4 3 (.int .i64 x);have hXA:Below w4.heap.size w4 (w4.alloc (.cells #[.int .i64 x] 3)):=ae.alloc ac _;have hl5:=hl4.below hXA (by omega);have hN5':=Boxed.low hN4 hXA (by omega);have hm5:=Boxed.low hm4 hXA (by omega);have hR5:=hR4.below hXA (by omega);have HB5:=HB4.trans (hXA.mono (by omega));have hz5:(w4.alloc (.cells #[.int .i64 x] 3)).heap.size=w4.heap.size+1:=by simp
    obtain⟨bx,hbx⟩:∃bx,bx=w4.heap.size:=⟨_,rfl⟩;have HBX:=aa hbx;clear hbx hXA hl4 hN4 hm4 hR4 HB4;generalize ux n N size=cc at *;go_wp2_with fail
    have hbx:=HBX.out;rw[<-hbx]at hx0 hz4 hz5⊢;generalize (w4.alloc (.cells #[.int .i64 x] 3))=W5 at hl5 hN5' hm5 hR5 HB5 hz5 hx0⊢;clear hbx HBX c0 c1 cl hw1 hw2 HXV x1 x2 x3;obtain⟨c0,c1,cl⟩:=id hl5;refine(acl ad n cap K L hn _ (hR5.mono HB5.size)).mono ?_;rintro e w6⟨rfl,hb6⟩;have hl6:=hl5.below hb6 (by omega);have hN6:=Boxed.low hN5' hb6 (by omega);have hm6:=Boxed.low hm5 hb6 (by omega);have hx6:=Boxed.low hx0 hb6 (by omega);have hR6:=hR5.below hb6 (by omega);have HB6:=HB5.trans (hb6.mono HB5.size);have hz6:bx<w6.heap.size:=by have:=hb6.size;omega
    have hfl:=arw L n;have hrl:=rst_le L n;clear hl5 hN5' hm5 hR5 HB5 hb6 hz5 hx0 c0 c1 cl;have hmm:=@run_makeMap prog;have hW7:∃W7,W7=((w6.alloc (.cells #[.int .i64 (frq L n:Nat)] 3)).alloc (.cells #[.int .i64 (rst L n:Nat)] 3)).alloc (.map #[] 0):=⟨_,rfl⟩;have hA7:Below w6.heap.size w6 (((w6.alloc (.cells #[.int .i64 (frq L n:Nat)] 3)).alloc (.cells #[.int .i64 (rst L n:Nat)] 3)).alloc (.map #[] 0)):=((ae.alloc ac _).alloc (by simp) _).alloc (by simp;omega) _;have hl7:=hl6.below hA7 (by omega);have hN7:=Boxed.low hN6 hA7 (by omega);have hm7:=Boxed.low hm6 hA7 (by omega);have hx7:=Boxed.low hx6 hA7 (by omega);have hR7:=hR6.below hA7 (by omega);have HB7:=HB6.trans (hA7.mono (by omega));have hf7:=((Boxed.new w6 3 (.int .i64 (frq L n:Nat))).alloc (.cells #[.int .i64 (rst L n:Nat)] 3)).alloc (.map #[] 0);have hr7:=(Boxed.new (w6.alloc (.cells #[.int .i64 (frq L n:Nat)] 3)) 3 (.int .i64 (rst L n:Nat))).alloc (.map #[] 0);have hM0:=sx.made ((w6.alloc (.cells #[.int .i64 (frq L n:Nat)] 3)).alloc (.cells #[.int .i64 (rst L n:Nat)] 3));have hz7:(((w6.alloc (.cells #[.int .i64 (frq L n:Nat)] 3)).alloc (.cells #[.int .i64 (rst L n:Nat)] 3)).alloc (.map #[] 0)).heap.size=w6.heap.size+3:=by simp
    rw[bg]at hr7;rw[bg,bg]at hM0;clear hW7 hA7 hl6 hN6 hm6 hx6 hR6 HB6;rw[if_pos hnN]at hCV2;have h15:=hrg.2;have hways:way=1\/way=2\/way=3\/way=4\/way=5:=by omega
    have HC:=aa hCV2;clear hCV2;rcases hways with rfl|rfl|rfl|rfl|rfl
    all_goals
     go_wp2_with(first|(refine ny _ rfl _ _ _ (.inr rfl) rfl hM0 (by unfold maxLen;omega) 1 (by omega) (by omega) (.func (.func 243) #[] #[.pointer (some ⟨bm,0,none⟩),.pointer (some ⟨w.heap.size+1,0,none⟩)]) rfl rfl ?_;intro v1 hM1 hg1)|(refine ny _ rfl _ _ _ (.inr rfl) rfl hM1 (by unfold maxLen;omega) 2 (by omega) (by omega) (.func (.func 244) #[] #[.pointer (some ⟨w.heap.size+1,0,none⟩),.pointer (some ⟨bm,0,none⟩)]) rfl rfl ?_;intro v2 hM2 hg2)|(refine ny _ rfl _ _ _ (.inr rfl) rfl hM2 (by unfold maxLen;omega) 3 (by omega) (by omega) (.func (.func 245) #[] #[.pointer (some ⟨bx,0,none⟩),.pointer (some ⟨w.heap.size+1,0,none⟩)]) rfl rfl ?_;intro v3 hM3 hg3)|(refine ny _ rfl _ _ _ (.inr rfl) rfl hM3 (by unfold maxLen;omega) 4 (by omega) (by omega) (.func (.func 246) #[] #[.pointer (some ⟨bx,0,none⟩),.pointer (some ⟨w.heap.size+1,0,none⟩),.pointer (some ⟨w.heap.size,0,none⟩)]) rfl rfl ?_;intro v4 hM4 hg4)|(refine ny _ rfl _ _ _ (.inr rfl) rfl hM4 (by unfold maxLen;omega) 5 (by omega) (by omega) (.func (.func 247) #[] #[.pointer (some ⟨bx,0,none⟩),.pointer (some ⟨w.heap.size+1,0,none⟩),.pointer (some ⟨w6.heap.size,0,none⟩),.pointer (some ⟨w6.heap.size+1,0,none⟩)]) rfl rfl ?_;intro v5 hM5 hg5;have hG:=hg1.trans (hg2.trans (hg3.trans (hg4.trans hg5)));have lk1:=hM5.look 1 (by omega) (by omega);have lk2:=hM5.look 2 (by omega) (by omega);have lk3:=hM5.look 3 (by omega) (by omega);have lk4:=hM5.look 4 (by omega) (by omega);have lk5:=hM5.look 5 (by omega) (by omega);simp only[Int.reduceEq,reduceIte]at lk1 lk2 lk3 lk4 lk5;have hN8:=Boxed.kept hN7 hG (by simp;omega);have hm8:=Boxed.kept hm7 hG (by simp;omega);have hx8:=Boxed.kept hx7 hG (by simp;omega);have hf8:=Boxed.kept hf7 hG (by simp<;>omega);have hr8:=Boxed.kept hr7 hG (by simp<;>omega);have hl8:=fk.grw hl7 hG (by omega);have hB8:=ib (base:=w6.heap.size) hG (by simp;omega) (fun j hj=>by cases hj;omega);have z8:=hG.size;rw[hz7]at z8)|(go_at_call 243;refine(ant bm (w.heap.size+1) n N (by omega) (by omega) (by omega) (by omega) _ (Boxed.cell hm8) (Boxed.cell hN8)).mono ?_;rintro e w9⟨rfl,hb9⟩)|(go_at_call 244;refine(ans bm (w.heap.size+1) n N (by omega) (by omega) (by omega) (by omega) _ (Boxed.cell hm8) (Boxed.cell hN8)).mono ?_;rintro e w9⟨rfl,hb9⟩)|(go_at_call 245;refine(anr bx (w.heap.size+1) x N (by omega) (by omega) (by omega) (by omega) _ (Boxed.cell hx8) (Boxed.cell hN8)).mono ?_;rintro e w9⟨rfl,hb9⟩)|(go_at_call 246;refine(anq bx (w.heap.size+1) w.heap.size x N (by omega) (by omega) (by omega) (by omega) ad n cap K L hn _ ((hR7.below hB8 (by omega)).mono (by omega)) hl8 (Boxed.cell hx8) (Boxed.cell hN8) (by omega) (by omega)).mono ?_;rintro e w9⟨rfl,hb9⟩)|(go_at_call 247;refine(anp bx (w.heap.size+1) w6.heap.size (w6.heap.size+1) x N (frq L n:Nat) (rst L n:Nat) (by omega) (by omega) (by omega) (by omega) (by omega) (by omega) (by omega) (by omega) _ (Boxed.cell hx8) (Boxed.cell hN8) (Boxed.cell hf8) (Boxed.cell hr8)).mono ?_;rintro e w9⟨rfl,hb9⟩))
     go_ret2
     rw[HC.out];exact⟨rfl,HB7.trans ((hB8.mono (by omega)).trans (hb9.mono (by omega)))⟩
  ·rw[if_neg hnN]at hCV2
   have h100:nn<=100000:=by
    refine Int.not_lt.1 fun h=>?_
    have:N=100000:=by rw[<-hN];exact Int.min_eq_right (by omega)
    omega
   obtain rfl:N=nn:=by rw[<-hN];exact Int.min_eq_left h100
   have HC:=aa hCV2;clear hCV2;go_wp2;go_ret2
   rw[HC.out];exact⟨rfl,HBA⟩
end
section
def sdF(nn size K:Int)(L:Nat->Nat->Bool)(n:Nat)(way:Int):Bool:=s6 way nn size K L n
def tel(nn size K:Int)(L:Nat->Nat->Bool)(n:Nat)(way:Int):Int:=if s6 way nn size K L n then agk way nn size L n else 0
def chs(s:Int->Bool)(c:Int->Int):Nat->Int×Int
 |0=>(0,0)
 |k+1=>if s ((k:Int)+1)&&(decide ((chs s c k).1=0)||decide (c ((k:Int)+1)<(chs s c k).2))then((k:Int)+1,c ((k:Int)+1))else chs s c k
theorem agm(s:Int->Bool)(c:Int->Int)(k:Nat):
 ((chs s c k).1=0/\∀y:Int,1<=y->y<=k->s y=false)∨
 ((1<=(chs s c k).1/\(chs s c k).1<=k)/\s (chs s c k).1=true/\(chs s c k).2=c (chs s c k).1/\∀y:Int,1<=y->y<=k->s y=true->(chs s c k).2<=c y/\((chs s c k).2<c y\/(chs s c k).1<=y)):=by
 induction k with
 |zero=>exact .inl ⟨rfl,fun y h1 h2=>by omega⟩
 |succ k ih=>
  simp only[chs];cases hs:s ((k:Int)+1)
  ·rw[Bool.false_and,if_neg (by decide)]
   rcases ih with⟨h0,h1⟩|⟨⟨h0,h1⟩,h2,h3,h4⟩
   ·refine .inl ⟨h0,fun y y1 y2=>?_⟩
    by_cases he:y=(k:Int)+1
    ·rw[he];exact hs
    ·exact h1 y y1 (by omega)
   ·refine .inr ⟨⟨h0,by omega⟩,h2,h3,fun y y1 y2 y3=>?_⟩
    by_cases he:y=(k:Int)+1
    ·rw[he,hs]at y3;cases y3
    ·exact h4 y y1 (by omega) y3
  ·rw[Bool.true_and]
   rcases ih with⟨h0,h1⟩|⟨⟨h0,h1⟩,h2,h3,h4⟩
   ·rw[cw h0,Bool.true_or,if_pos rfl]
    refine .inr ⟨⟨by omega,by omega⟩,hs,rfl,fun y y1 y2 y3=>?_⟩;by_cases he:y=(k:Int)+1
    ·rw[he];exact⟨Int.le_refl _,.inr (Int.le_refl _)⟩
    ·rw[h1 y y1 (by omega)]at y3;cases y3
   ·rw[bv (show¬((chs s c k).1=0) by omega),Bool.false_or]
    by_cases hlt:c ((k:Int)+1)<(chs s c k).2
    ·rw[cw hlt,if_pos rfl]
     refine .inr ⟨⟨by omega,by omega⟩,hs,rfl,fun y y1 y2 y3=>?_⟩;by_cases he:y=(k:Int)+1
     ·rw[he];exact⟨Int.le_refl _,.inr (Int.le_refl _)⟩
     ·have:=(h4 y y1 (by omega) y3).1
      exact⟨by omega,.inl (by omega)⟩
    ·rw[bv hlt,if_neg (by decide)]
     refine .inr ⟨⟨h0,by omega⟩,h2,h3,fun y y1 y2 y3=>?_⟩;by_cases he:y=(k:Int)+1
     ·rw[he];exact⟨by omega,.inr (by omega)⟩
     ·exact h4 y y1 (by omega) y3
def zg(nn size K:Int)(L:Nat->Nat->Bool)(n:Nat):Int:=(chs (sdF nn size K L n) (tel nn size K L n) 5).1
theorem sd_1(nn size K:Int)(L:Nat->Nat->Bool)(n:Nat):s6 1 nn size K L n=fv n L K:=by
 unfold s6 frB;rw[cw rfl,Bool.true_or,Bool.true_or,Bool.and_true];cases h:fv n L K
 ·exact aji h
 ·exact adm_1 h
theorem ajf(nn size K:Int)(L:Nat->Nat->Bool)(n:Nat):decide (zg nn size K L n=0)= !fv n L K:=by
 unfold zg;rcases agm (sdF nn size K L n) (tel nn size K L n) 5 with⟨h0,h1⟩|⟨⟨h0,h1⟩,h2,h3,h4⟩
 ·rw[cw h0]
  have:=h1 1 (by omega) (by omega);unfold sdF at this;rw[sd_1]at this;rw[this];rfl
 ·rw[bv (by omega)]
  unfold sdF at h2;unfold s6 at h2;rw[ce]at h2;have h5:=h2.1;unfold rr at h5;rw[ce]at h5;rw[h5.1];rfl
theorem aje{nn size K:Int}{L:Nat->Nat->Bool}{n:Nat}(h:zg nn size K L n≠0):s6 (zg nn size K L n) nn size K L n=true:=by
 unfold zg at h⊢;rcases agm (sdF nn size K L n) (tel nn size K L n) 5 with⟨h0,h1⟩|⟨⟨h0,h1⟩,h2,h3,h4⟩
 ·exact absurd h0 h
 ·exact h2
end
section
set_option maxRecDepth 100000
set_option maxHeartbeats 4000000
open Go.RowKit
theorem telC(C:Nat)(way:Int)(ad:Option Addr)(n cap:Nat)(K:Int)(L:Nat->Nat->Bool)(nn size:Int)(w:World)
 (h:Calls prog C #[.int .i64 way,lv ad n cap K,.int .i64 nn,.int .i64 size] w fun e w'=>e=.returned (.tuple #[.int .i64 (if s6 way nn size K L n then agk way nn size L n else 0),.bool (s6 way nn size K L n)])/\Below w.heap.size w w'):
 Calls prog C #[.int .i64 way,lv ad n cap K,.int .i64 nn,.int .i64 size] w fun e w'=>e=.returned (.tuple #[.int .i64 (tel nn size K L n way),.bool (sdF nn size K L n way)])/\Below w.heap.size w w':=h
theorem ai9(ad:Option Addr)(n cap:Nat)(K:Int)(L:Nat->Nat->Bool)(hn:(n:Int)<=1000)(nn size:Int)(w:World)(hR:fm w ad n L w.heap.size):
 Calls prog 232 #[lv ad n cap K,.int .i64 nn,.int .i64 size] w fun e w'=>e=.returned (.int .i64 (zg nn size K L n))/\Below w.heap.size w w':=by
 have hl:=fk.new w ad n cap K;have HB:Below w.heap.size w (w.alloc (.cells #[.slice ad n cap,.int .i64 K] 52)):=ae.alloc ac _;have hR0:=(hR.below HB ac).mono HB.size;have hc:=fun way w' h'=>telC 242 way ad n cap K L nn size w' (ar9 way ad n cap K L hn nn size w' h')
 unfold zg;generalize sdF nn size K L n=s at hc;generalize tel nn size K L n=c at hc;have HC:=aa hc;clear hc;go_enter func232,ntmps232;go_wp2_with fail
 generalize hW:w.alloc (.cells #[.slice ad n cap,.int .i64 K] 52)=W0 at hl HB hR0⊢;clear hW hR;go_loopw[7,8,9] (fun b m i wr=>∃k:Nat,k<=5/\i=.int .i64 ((k:Int)+1)/\b=.int .i64 (chs s c k).1/\m=.int .i64 (chs s c k).2/\fo W0 wr) (fun _ _ i _=>6-(intOf i).toNat)
 case atStart=>exact⟨0,by omega,rfl,rfl,rfl,fo.refl _⟩
 case round=>
  obtain⟨k,hk,rfl,rfl,rfl,hO⟩:=hrel;have hlq:=hl.below hO.2.2.2 hl.2.2;have hRq:=(hR0.below hO.2.2.2 ac).mono hO.2.2.1;obtain⟨c0,c1,cl⟩:=hlq;have HO:=aa hO;have HNx:Hid (chs s c (k+1)=if s ((k:Int)+1)&&(decide ((chs s c k).1=0)||decide (c ((k:Int)+1)<(chs s c k).2))then((k:Int)+1,c ((k:Int)+1))else chs s c k):=aa rfl;clear hO hl hR0;by_cases hlt:k<5
  ·have hlti:(k:Int)+1<=5:=by omega
   obtain⟨P,hP⟩:∃P,P=chs s c k:=⟨_,rfl⟩;rw[<-hP]at HNx⊢;clear hP;obtain⟨B,M⟩:=P;dsimp only at HNx⊢;cases hs:s ((k:Int)+1)
   ·rw[hs,Bool.false_and,if_neg (by decide)]at HNx
    go_wp2_with(first|(go_at_call 242;refine(HC.out ((k:Int)+1) _ hRq).mono ?_;rintro e w4⟨rfl,hb4⟩))
    exact⟨⟨k+1,by omega,by go_num,by rw[HNx.out],by rw[HNx.out],HO.out.trans (fo.of hb4)⟩,by simp[intOf];omega⟩
   ·rw[hs,Bool.true_and]at HNx
    by_cases hB:B=0
    ·subst hB
     rw[cw rfl,Bool.true_or,if_pos rfl]at HNx;go_wp2_with(first|(go_at_call 242;refine(HC.out ((k:Int)+1) _ hRq).mono ?_;rintro e w4⟨rfl,hb4⟩))
     exact⟨⟨k+1,by omega,by go_num,by rw[HNx.out],by rw[HNx.out],HO.out.trans (fo.of hb4)⟩,by simp[intOf];omega⟩
    ·have hB1:(B==0)=false:=by rw[ax];exact hB
     rw[bv hB,Bool.false_or]at HNx;clear hB;by_cases hM:c ((k:Int)+1)<M
     ·have hM1:decide (c ((k:Int)+1)<M)=true:=cw hM
      rw[hM1,if_pos rfl]at HNx;go_wp2_with(first|(go_at_call 242;refine(HC.out ((k:Int)+1) _ hRq).mono ?_;rintro e w4⟨rfl,hb4⟩))
      exact⟨⟨k+1,by omega,by go_num,by rw[HNx.out],by rw[HNx.out],HO.out.trans (fo.of hb4)⟩,by simp[intOf];omega⟩
     ·have hM1:decide (c ((k:Int)+1)<M)=false:=bv hM
      rw[hM1,if_neg (by decide)]at HNx;go_wp2_with(first|(go_at_call 242;refine(HC.out ((k:Int)+1) _ hRq).mono ?_;rintro e w4⟨rfl,hb4⟩))
      exact⟨⟨k+1,by omega,by go_num,by rw[HNx.out],by rw[HNx.out],HO.out.trans (fo.of hb4)⟩,by simp[intOf];omega⟩
  ·obtain rfl:k=5:=by omega
   go_wp2;go_ret;exact⟨rfl,HB.trans (HO.out.2.2.2.mono HB.size)⟩
end
section
set_option maxRecDepth 100000
open Go.RowKit
def s1a:ByteArray:=⟨#[97]⟩
def s1b:ByteArray:=⟨#[98]⟩
def a1:Nat->Bool:=kq s1a 1
def b1:Nat->Bool:=kq s1b 1
end
section
open Go.RowKit
theorem aaj(L:Nat->Nat->Bool)(n:Nat)(h:jh L n=true):(zj L n).size=n:=by
 unfold zj;rw[h,if_pos rfl,strOfNums_size,yy]
theorem aov(L:Nat->Nat->Bool)(n:Nat)(h:jh L n=true):agC (ke (zj L n)) L n=true:=by
 rw[aku];intro j hj;have ho:=(abt _ _).1 h j hj;have ho':one (L j)=true:=ho;have hc:nt (L j)=1:=by unfold one at ho';simpa using ho'
 obtain⟨hf,hS⟩:=(wt (L j)).1 hc;have hsg:sgl (L j)=first (L j):=by unfold sgl;rw[ho',if_pos rfl]
 rw[jp];intro m hm;rw[hS m hm];unfold ke zj;rw[h,if_pos rfl,strOfNums_data];simp only[aed,List.map_map,List.getElem?_map,List.getElem?_range hj,Option.map_some,Function.comp_apply,Int.toNat_natCast,hsg];have e:(UInt8.ofNat (first (L j))).toNat=first (L j):=by rw[UInt8.toNat_ofNat'];omega
 rw[e,Bool.eq_iff_iff,cg,beq_iff_eq,Option.some.injEq];exact eq_comm
end
end Go.Proofs.YtjfkmoinldlmaaaGreat
