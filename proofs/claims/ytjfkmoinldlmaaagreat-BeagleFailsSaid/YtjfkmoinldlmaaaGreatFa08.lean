/- The walk of BeagleFails, part 8. Walks of the leaf package and of beagleref07: Plain, Where, Bound, Letters. -/
import Derived.Test.YtjfkmoinldlmaaaGreatFa07
import Derived.Laws.BytesString
import Derived.Laws.BytesArg
namespace Go.Proofs.YtjfkmoinldlmaaaGreat
open Go.Proofs.Tryz
section
set_option maxRecDepth 100000
set_option maxHeartbeats 4000000
open Go.RowKit
theorem yb(ad:Option Addr)(n cap:Nat)(K:Int)(L:Nat->Nat->Bool)(hn:(n:Int)<=4611686018427387904)(w:World)(hR:fm w ad n L w.heap.size):
 Calls prog 136 #[lv ad n cap K] w fun e w'=>e=.returned (.bool (ki L n))/\Below w.heap.size w w':=by
 have hl:=fk.new w ad n cap K;go_enter func136,ntmps136;go_wp2_with fail
 obtain⟨W0,hW0⟩:∃W0:World,w.alloc (.cells #[.slice ad n cap,.int .i64 K] 52)=W0:=⟨_,rfl⟩;have HB:Below w.heap.size w W0:=by subst hW0;exact ae.alloc ac _
 have hR0:=hR.below HB ac;rw[hW0]at hl⊢;clear hW0 hR;obtain⟨c0,c1,l0⟩:=hl;go_wp2_with fail
 go_loopw[10] (fun j wr=>∃k:Nat,k<=n/\j=.int .i64 k/\ki L k=true/\fo W0 wr) (fun j _=>n-(intOf j).toNat)
 case atStart=>exact⟨0,by omega,rfl,rfl,fo.refl _⟩
 case round=>
  obtain⟨k,hk,rfl,hp,hO⟩:=hrel;have hR1:=hR0.below hO.2.2.2 (dj l0);have HB1:=HB.trans (hO.2.2.2.mono HB.size);have HO:=aa hO;have HP:=aa hp;clear hO hp;by_cases hlt:k<n
  ·obtain⟨b,o,rfl,hb,e0,e1,e2,e3⟩:=hR1.at hlt
   clear hR1 hR0;have hlti:(k:Int)<n:=by omega
   have hA:Below wr.heap.size wr (wr.alloc (.cells #[.int .u64 (wd (L k) 0:Nat),.int .u64 (wd (L k) 1:Nat),.int .u64 (wd (L k) 2:Nat),.int .u64 (wd (L k) 3:Nat)] 100)):=ae.alloc ac _;have hN:=fc.new wr (L k);cases hq:one (L k)
   ·cases hf:fj (L k) iz
    ·go_wp2_with(first|(go_at_call 177;refine(m7 _ _).mono ?_;rw[hq];rintro e w1⟨rfl,hb1⟩;obtain⟨⟨d0,d1,d2,d3⟩,-,dl⟩:=hN.below hb1 hN.2.2)|(go_at_call 178;refine(af9 _ _).mono ?_;rw[hf];rintro e w2⟨rfl,hb2⟩))
     try rw[Exit.noGoto_ret]
     go_ret;exact⟨by rw[show ki L n=false from acx hlt (by rw[hq,hf];rfl)];rfl,HB1.trans ((hA.trans (hb1.mono hA.size)|>.trans (hb2.mono (ba hA.size hb1.size))).mono HB1.size)⟩
    ·go_wp2_with(first|(go_at_call 177;refine(m7 _ _).mono ?_;rw[hq];rintro e w1⟨rfl,hb1⟩;obtain⟨⟨d0,d1,d2,d3⟩,-,dl⟩:=hN.below hb1 hN.2.2)|(go_at_call 178;refine(af9 _ _).mono ?_;rw[hf];rintro e w2⟨rfl,hb2⟩))
     refine⟨⟨k+1,by omega,by go_num,?_,HO.out.trans (fo.of (hA.trans (hb1.mono hA.size)|>.trans (hb2.mono (ba hA.size hb1.size))))⟩,by simp[intOf];omega⟩;show(ki L k&&(one (L k)||fj (L k) iz))=true;rw[HP.out,hq,hf];rfl
   ·go_wp2_with(first|(go_at_call 177;refine(m7 _ _).mono ?_;rw[hq];rintro e w1⟨rfl,hb1⟩;obtain⟨⟨d0,d1,d2,d3⟩,-,dl⟩:=hN.below hb1 hN.2.2))
    refine⟨⟨k+1,by omega,by go_num,?_,HO.out.trans (fo.of (hA.trans (hb1.mono hA.size)))⟩,by simp[intOf];omega⟩;show(ki L k&&(one (L k)||fj (L k) iz))=true;rw[HP.out,hq];rfl
  ·obtain rfl:k=n:=by omega
   go_wp2;try rw[Exit.noGoto_ret]
   go_ret;exact⟨by rw[HP.out];rfl,HB1⟩
theorem q9(ad:Option Addr)(n cap:Nat)(K:Int)(L:Nat->Nat->Bool)(S:Nat->Bool)(hn:(n:Int)<=100000)(w:World)(hR:fm w ad n L w.heap.size):
 Calls prog 180 #[lv ad n cap K,cv S] w fun e w'=>∃v,e=.returned v/\w'.ownsRow w.heap.size 3 1 v (im S L n).length (ga (im S L n))/\Below w.heap.size w w':=by
 have hl:=fk.new w ad n cap K;have hS:=fc.new (w.alloc (.cells #[.slice ad n cap,.int .i64 K] 52)) S;go_enter func180,ntmps180;go_wp2_with fail
 obtain⟨W0,hW0⟩:∃W0:World,(w.alloc (.cells #[.slice ad n cap,.int .i64 K] 52)).alloc (.cells #[.int .u64 (wd S 0:Nat),.int .u64 (wd S 1:Nat),.int .u64 (wd S 2:Nat),.int .u64 (wd S 3:Nat)] 100)=W0:=⟨_,rfl⟩;have HB:Below w.heap.size w W0:=by subst hW0;exact(ae.alloc ac _).alloc (by simp) _
 have hs0:W0.heap.size=w.heap.size+2:=by subst hW0;simp
 have hl2:fk W0 w.heap.size ad n cap K:=by subst hW0;exact hl.below (ae.alloc ac _) hl.2.2
 have hR0:=hR.below HB ac;rw[hW0]at hS⊢;rw[bg]at hS;clear hW0 hR hl;obtain⟨c0,c1,l0⟩:=hl2;go_wp2_with fail
 go_loopw[5,11] (fun v j wr=>∃k:Nat,k<=n/\j=.int .i64 k/\wr.ownsRow (w.heap.size+2) 3 1 v (im S L k).length (ga (im S L k))/\Below (w.heap.size+2) W0 wr) (fun _ j _=>n-(intOf j).toNat)
 case atStart=>exact⟨0,by omega,rfl,bj _ _ _ _,ae⟩
 case round=>
  obtain⟨k,hk,rfl,hown,hb⟩:=hrel;have hR1:=hR0.below hb (by omega);have hS1:=hS.below hb (by omega);have hz:=hb.size;have hlen:(im S L k).length<=k:=by rw[pr];exact ur _ _
  by_cases hlt:k<n
  ·obtain⟨b,o,rfl,hbm,e0,e1,e2,e3⟩:=hR1.at hlt
   clear hR1 hR0;have hlti:(k:Int)<n:=by omega
   have hA:Below (w.heap.size+2) wr (wr.alloc (.cells #[.int .u64 (wd (L k) 0:Nat),.int .u64 (wd (L k) 1:Nat),.int .u64 (wd (L k) 2:Nat),.int .u64 (wd (L k) 3:Nat)] 100)):=ae.alloc (by omega) _;have hown1:=hown.alloc (.cells #[.int .u64 (wd (L k) 0:Nat),.int .u64 (wd (L k) 1:Nat),.int .u64 (wd (L k) 2:Nat),.int .u64 (wd (L k) 3:Nat)] 100);have hsz1:(wr.alloc (.cells #[.int .u64 (wd (L k) 0:Nat),.int .u64 (wd (L k) 1:Nat),.int .u64 (wd (L k) 2:Nat),.int .u64 (wd (L k) 3:Nat)] 100)).heap.size=wr.heap.size+1:=by simp
   cases hq:fj (L k) S
   ·have hs:im S L (k+1)=im S L k:=by simp only[im];rw[hq,if_neg (by decide)]
    have HS:=aa hs;clear hs;go_wp2_with fail
    exact⟨⟨k+1,by omega,by go_num,by rw[HS.out];exact hown1,hb.trans hA⟩,by simp[intOf];omega⟩
   ·have hs:im S L (k+1)=im S L k++[(k:Int)]:=by simp only[im];rw[hq,if_pos rfl]
    have HS:=aa hs;clear hs;go_wp2_with(first|(at_builtin;refine gj iv rfl _ _ rfl rfl hown1 [.int .i64 (k:Nat)] (by rw[hsz1];rfl) rfl (by simp[Value.oneCell']) (by unfold maxLen;omega) (by omega) (by omega) ?_;intro v3 w3 hown3 hb3))
    exact⟨⟨k+1,by omega,by go_num,by rw[HS.out,gz,bd];exact hown3,(hb.trans hA).trans hb3⟩,by simp[intOf];omega⟩
  ·obtain rfl:k=n:=by omega
   go_wp2;go_ret;exact⟨_,rfl,fx hown (by omega),HB.trans (hb.mono (by omega))⟩
theorem acv(ad:Option Addr)(n cap:Nat)(K:Int)(L:Nat->Nat->Bool)(hn:(n:Int)<=100000)(w:World)(hR:fm w ad n L w.heap.size):
 Calls prog 144 #[lv ad n cap K] w fun e w'=>e=.returned (.int .i64 (ja L n:Nat))/\Below w.heap.size w w':=by
 have hl:=fk.new w ad n cap K;have hbw:=tr L n;generalize ja L n=x at hbw⊢;go_enter func144,ntmps144;go_wp2_with fail
 obtain⟨W0,hW0⟩:∃W0:World,w.alloc (.cells #[.slice ad n cap,.int .i64 K] 52)=W0:=⟨_,rfl⟩;have HB:Below w.heap.size w W0:=by subst hW0;exact ae.alloc ac _
 have hR0:=(hR.below HB ac).mono HB.size;rw[hW0]at hl⊢;clear hW0 hR;obtain⟨c0,c1,l0⟩:=hl;have hww:=aa (show∀w':World,fm w' ad n L w'.heap.size->_ from fun w' h=>q9 ad n cap K L iz hn w' h);obtain⟨y,hy⟩:∃y,y=(im iz L n).length:=⟨_,rfl⟩;rw[<-hy]at hbw hww;clear hy;have hwr:IntKind.i64.wrap ((n:Int)-y)=x:=by rw[ci];omega
 have HBW:=aa hbw;clear hbw;go_region_held3 (fun w'=>fo W0 w') (first|with_reducible exact fo.start _|with_reducible exact fo.calld (fo.refl _) (by assumption)|with_reducible exact fo.call (by assumption) (by assumption)) (first|(go_at_call 93;refine(tm _).mono ?_;rintro e w1⟨rfl,hb1⟩)|(go_at_call 180;refine(hww.out _ ((hR0.below (show fo W0 _ by with_reducible assumption).2.2.2 ac).mono (show fo W0 _ by with_reducible assumption).2.2.1)).mono ?_;rintro e w2⟨v2,rfl,ho2,hb2⟩;obtain⟨ad2,cap2,rfl⟩:=ey ho2))
 go_wp2;go_ret;exact⟨rfl,HB.trans ((show fo W0 _ by assumption).2.2.2.mono HB.size)⟩
end
end Go.Proofs.YtjfkmoinldlmaaaGreat
