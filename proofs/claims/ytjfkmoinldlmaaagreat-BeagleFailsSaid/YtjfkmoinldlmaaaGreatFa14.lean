/- The walk of BeagleFails, part 14. Walks of the leaf package and of beagleref07: Letters, Kinds. Walk of beagleref07.Kinds. -/
import Derived.Test.YtjfkmoinldlmaaaGreatFa08
import Derived.Test.YtjfkmoinldlmaaaGreatFa12
namespace Go.Proofs.YtjfkmoinldlmaaaGreat
open Go.Proofs.Tryz
section
set_option maxRecDepth 100000
set_option maxHeartbeats 4000000
open Go.RowKit
theorem u8s_get(l:List Int)(i:Nat)(h:i<l.length):(u8s l)[i]?=some (.int .u8 (l.getD i 0)):=by
 simp[u8s,List.getElem?_map,bs h,List.getD]
theorem asb{w:World}{base:Nat}{v:Value}(xs:List Int){n:Nat}(hn:xs.length=n)(h:w.ownsRow base 5 1 v n (u8s xs)):(convert 118 9 v).run prog w=.ok (.string (strOfNums xs)) w:=by
 subst hn;rcases h.2 with⟨rfl,hx⟩|⟨g,cap,cur,rfl,_⟩
 ·have hx0:xs=[]:=by
   cases xs with
   |nil=>rfl
   |cons a r=>simp at hx
  subst hx0;exact run_convert_bytes_nil w 118 5 underlying118 underlying5 0 0 9 underlying9
 ·refine run_convert_bytes_arg w 118 5 underlying118 underlying5 g 0 xs.length cap xs rfl (fun i hi=>?_) 9 underlying9
  rw[dg,h.cellAt i (by omega)];exact u8s_get xs i hi
def zj(L:Nat->Nat->Bool)(n:Nat):ByteArray:=if jh L n then strOfNums (aed L n)else ByteArray.empty
theorem yx(ad:Option Addr)(n cap:Nat)(K:Int)(L:Nat->Nat->Bool)(hn:(n:Int)<=100000)(w:World)(hR:fm w ad n L w.heap.size):
 Calls prog 135 #[lv ad n cap K] w fun e w'=>e=.returned (.tuple #[.string (zj L n),.bool (jh L n)])/\Below w.heap.size w w':=by
 have hl:=fk.new w ad n cap K;go_enter func135,ntmps135;go_wp2_with fail
 obtain⟨W0,hW0⟩:∃W0:World,w.alloc (.cells #[.slice ad n cap,.int .i64 K] 52)=W0:=⟨_,rfl⟩;have HB:Below w.heap.size w W0:=by subst hW0;exact ae.alloc ac _
 have hs0:W0.heap.size=w.heap.size+1:=by subst hW0;simp
 have hR0:=hR.below HB ac;rw[hW0]at hl⊢;clear hW0 hR;obtain⟨c0,c1,l0⟩:=hl;go_wp2_with fail
 go_loopw[4,12] (fun v j wr=>∃k:Nat,k<=n/\j=.int .i64 k/\jh L k=true/\wr.ownsRow (w.heap.size+1) 5 1 v k (u8s (aed L k))/\Below (w.heap.size+1) W0 wr) (fun _ j _=>n-(intOf j).toNat)
 case atStart=>exact⟨0,by omega,rfl,rfl,bj _ _ _ _,ae⟩
 case round=>
  obtain⟨k,hk,rfl,hp,hown,hb⟩:=hrel;have hR1:=hR0.below hb (by omega);have hz:=hb.size;have HB1:=HB.trans (hb.mono (by omega));have HP:=aa hp;clear hp;by_cases hlt:k<n
  ·obtain⟨b,o,rfl,hbm,e0,e1,e2,e3⟩:=hR1.at hlt
   clear hR1 hR0;have hlti:(k:Int)<n:=by omega
   have hA:Below wr.heap.size wr (wr.alloc (.cells #[.int .u64 (wd (L k) 0:Nat),.int .u64 (wd (L k) 1:Nat),.int .u64 (wd (L k) 2:Nat),.int .u64 (wd (L k) 3:Nat)] 100)):=ae.alloc ac _;cases hq:one (L k)
   ·go_wp2_with(first|(go_at_call 177;refine(m7 _ _).mono ?_;rw[hq];rintro e w1⟨rfl,hb1⟩))
    try rw[Exit.noGoto_ret]
    go_ret2
    have hfl:jh L n=false:=acx hlt hq;exact⟨by unfold zj;rw[hfl];rfl,HB1.trans ((hA.trans (hb1.mono hA.size)).mono (by omega))⟩
   ·go_wp2_with(first|(go_at_call 177;refine(m7 _ _).mono ?_;rw[hq];rintro e w1⟨rfl,hb1⟩;have hown1:=fe hown (hA.trans (hb1.mono hA.size));have hz1:=(hA.trans (hb1.mono hA.size)).size)|(at_builtin;refine gj elem118 rfl _ _ rfl rfl hown1 [.int .u8 (sgl (L k):Nat)] rfl rfl (by simp[Value.oneCell']) (by unfold maxLen;omega) (by omega) (by omega) ?_;intro v3 w3 hown3 hb3))
    refine⟨⟨k+1,by omega,by go_num,?_,by rw[am6,aou];exact hown3,(hb.trans ((hA.trans (hb1.mono hA.size)).mono (by omega))).trans hb3⟩,by simp[intOf];omega⟩;show(jh L k&&one (L k))=true;rw[HP.out,hq];rfl
  ·obtain rfl:k=n:=by omega
   have hcv:=asb (aed L k) (yy L k) hown;go_wp2;go_ret2
   exact⟨by unfold zj;rw[HP.out];rfl,HB1⟩
theorem arh(S T:Nat->Bool)(l:List (Nat->Bool)):nr S (l++[T])=(nr S l||fj T S):=by simp[nr]
theorem um(ad:Option Addr)(n cap:Nat)(K:Int)(L:Nat->Nat->Bool)(hn:(n:Int)<=100000)(w:World)(hR:fm w ad n L w.heap.size):
 Calls prog 179 #[lv ad n cap K] w fun e w'=>∃v,e=.returned v/\w'.ownsRow w.heap.size 100 4 v (fa L n).length (ji (fa L n))/\Below w.heap.size w w':=by
 have hl:=fk.new w ad n cap K;have hmm:=@run_makeMap prog;go_enter func179,ntmps179;go_wp2_with fail
 obtain⟨W0,hW0⟩:∃W0:World,w.alloc (.cells #[.slice ad n cap,.int .i64 K] 52)=W0:=⟨_,rfl⟩;have HB:Below w.heap.size w W0:=by subst hW0;exact ae.alloc ac _
 have hs0:W0.heap.size=w.heap.size+1:=by subst hW0;simp
 have hR0:=hR.below HB ac;rw[hW0]at hl⊢;clear hW0 hR;have hM0:=ng.made W0;rw[hs0]at hM0;refine(tm _).mono ?_;rintro e w1⟨rfl,hb1⟩;have hM1:=hM0.below hb1;have hl1:=hl.below ((aw _ W0).alloc ac _|>.trans (hb1.mono (by simp))) (by omega);have hbb:Below (w.heap.size+1) W0 w1:=(aw _ W0).alloc (by omega) _|>.trans (hb1.mono (by simp;omega));have hz1:w.heap.size+2<=w1.heap.size:=by have:=hb1.size;simp at this;omega
 clear hb1 hM0 hl;go_wp2_with(refine aag _ rfl _ _ _ (.inr rfl) rfl hM1 (by unfold maxLen;omega) iz rfl rfl ?_;intro w2 hM2 hg2;have hl2:fk w2 w.heap.size ad n cap K:=hl1.below (ib (base:=w.heap.size+1) hg2 (by omega) (fun k hk=>by cases hk;exact ac)) (by omega);have c0:=hl2.1)
 have hbb2:Below (w.heap.size+1) W0 w2:=hbb.trans (ib hg2 (by omega) (fun k hk=>by cases hk;exact ac));have hz2:w.heap.size+2<=w2.heap.size:=ba hz1 hg2.size;have hM2':ng w2 (w.heap.size+1) 1 (fun T=>fj iz T||nr T (fa L 0)):=hM2.congr (by omega) (fun T=>by simp[fa,nr]);clear hM1 hM2 hg2 hl1 hbb hl2;go_loopw[4,13] (fun v j wr=>∃k:Nat,k<=n/\j=.int .i64 k/\ng wr (w.heap.size+1) (k+1) (fun T=>fj iz T||nr T (fa L k))/\wr.ownsRow (w.heap.size+2) 100 4 v (fa L k).length (ji (fa L k))/\Below (w.heap.size+1) W0 wr/\w.heap.size+2<=wr.heap.size) (fun _ j _=>n-(intOf j).toNat)
 case atStart=>exact⟨0,by omega,rfl,hM2',bj _ _ _ _,hbb2,hz2⟩
 case round=>
  obtain⟨k,hk,rfl,hM,hown,hb,hz⟩:=hrel;have hR1:=hR0.below hb (by omega);have hlen:=iu L k;by_cases hlt:k<n
  ·obtain⟨b,o,rfl,hbm,e0,e1,e2,e3⟩:=hR1.at hlt
   clear hR1 hR0 c0;have hlti:(k:Int)<n:=by omega
   have hA:Below wr.heap.size wr (wr.alloc (.cells #[.int .u64 (wd (L k) 0:Nat),.int .u64 (wd (L k) 1:Nat),.int .u64 (wd (L k) 2:Nat),.int .u64 (wd (L k) 3:Nat)] 100)):=ae.alloc ac _;have hN:=fc.new wr (L k);have hM1:=hM.alloc (.cells #[.int .u64 (wd (L k) 0:Nat),.int .u64 (wd (L k) 1:Nat),.int .u64 (wd (L k) 2:Nat),.int .u64 (wd (L k) 3:Nat)] 100);have hown1:=hown.alloc (.cells #[.int .u64 (wd (L k) 0:Nat),.int .u64 (wd (L k) 1:Nat),.int .u64 (wd (L k) 2:Nat),.int .u64 (wd (L k) 3:Nat)] 100);have hb1:=hb.trans (hA.mono (by omega));have hstep:fa L (k+1)=if fj (L k) iz||nr (L k) (fa L k)then fa L k else fa L k++[L k]:=rfl
   have hcm:=kv (L k) iz;rw[hcm]at hstep;clear hcm;have hN':=aa hN;obtain⟨⟨d0,d1,d2,d3⟩,-,dl⟩:=hN;cases hq:(fj iz (L k)||nr (L k) (fa L k))
   ·rw[hq,if_neg (by decide)]at hstep
    have HS:=aa hstep;have HQ:=aa hq;clear hstep hq;have hne:some wr.heap.size≠some (w.heap.size+1):=by intro e;simp at e;omega
    go_wp2_with(first|(refine yn _ rfl _ _ rfl rfl hM1 (L k) rfl false HQ.out ?_)|(refine aag _ rfl _ _ _ (.inl rfl) rfl hM1 (by unfold maxLen;omega) (L k) rfl rfl ?_;intro w3 hM3 hg3;obtain⟨⟨d0,d1,d2,d3⟩,-,dl⟩:=fc.grown hN'.out hg3 hne;have hz3:=hg3.size;have hown3:=hown1.kept hg3 (.inr fun e=>by have:=(hown1.lt _ e).1;omega))|(at_builtin;refine gj ot rfl _ _ rfl rfl hown3 [.int .u64 (wd (L k) 0:Nat),.int .u64 (wd (L k) 1:Nat),.int .u64 (wd (L k) 2:Nat),.int .u64 (wd (L k) 3:Nat)] rfl rfl (by simp[Value.oneCell']) (by unfold maxLen;omega) (by omega) (by omega) ?_;intro v4 w4 hown4 hb4))
    have hM4:=ng.of_block hM3 (hb4.block (w.heap.size+1) (by omega))
    exact⟨⟨k+1,by omega,by go_num,hM4.congr (by omega) (fun T=>by rw[HS.out,arh,Bool.or_assoc]),by rw[HS.out,pq,bd];exact hown4,
     (hb1.trans (ib hg3 (by omega) (fun q hq=>by cases hq;exact ac))).trans (hb4.mono (by omega)),by have:=hb4.size;omega⟩,by simp[intOf];omega⟩
   ·rw[hq,if_pos rfl]at hstep
    have HS:=aa hstep;have HQ:=aa hq;clear hstep hq;go_wp2_with(first|(refine yn _ rfl _ _ rfl rfl hM1 (L k) rfl true HQ.out ?_))
    exact⟨⟨k+1,by omega,by go_num,hM1.congr (by omega) (fun T=>by rw[HS.out]),by rw[HS.out];exact hown1,hb1,ba hz hA.size⟩,by simp[intOf];omega⟩
  ·obtain rfl:k=n:=by omega
   go_wp2;go_ret;exact⟨_,rfl,fx hown (by omega),HB.trans (hb.mono (by omega))⟩
end
section
open Go.RowKit
theorem akn(l:List (Nat->Bool))(T:Nat->Bool)(j:Nat)(hj:j<l.length):gc (l++[T]) j=gc l j:=by
 unfold gc;rw[ek hj]
theorem inL_any(S:Nat->Bool)(l:List (Nat->Bool)):nr S l=sm (fun j=>fj (gc l j) S) l.length:=by
 rw[Bool.eq_iff_iff,agu];unfold nr;rw[List.any_eq_true];constructor
 ·rintro⟨T,hT,h⟩
  obtain⟨j,hj,rfl⟩:=List.getElem_of_mem hT;exact⟨j,hj,by unfold gc;rw[bs hj];exact h⟩
 ·rintro⟨j,hj,h⟩
  unfold gc at h;rw[bs hj]at h;exact⟨l[j],List.getElem_mem hj,h⟩
end
end Go.Proofs.YtjfkmoinldlmaaaGreat
