/- The walk of BeagleFails, part 25. Walk of split.Parts. The counts by frequent kinds and by bytes are the counts element by element: plain. -/
import Derived.Test.YtjfkmoinldlmaaaGreatFa24
import Derived.Laws.EntriesVeiled
namespace Go.Proofs.YtjfkmoinldlmaaaGreat
open Go.Proofs.Tryz
section
set_option maxRecDepth 100000
set_option maxHeartbeats 8000000
open Go.RowKit Go.Shelf
theorem afq(ad:Option Addr)(n cap:Nat)(K least:Int)(L:Nat->Nat->Bool)(hn:(n:Int)<=1000)(w:World)(hR:fm w ad n L w.heap.size):
 Calls prog 146 #[lv ad n cap K,.int .i64 least] w fun e w'=>∃ad1 cap1 ad2 cap2,e=.returned (.tuple #[.slice ad1 ((fa L n).filter (lz L n least)).length cap1,.slice ad2 ((fa L n).filter fun S=> !lz L n least S).length cap2])∧
  fm w' ad1 ((fa L n).filter (lz L n least)).length (gc ((fa L n).filter (lz L n least))) w'.heap.size/\fm w' ad2 ((fa L n).filter fun S=> !lz L n least S).length (gc ((fa L n).filter fun S=> !lz L n least S)) w'.heap.size/\Below w.heap.size w w':=by
 have hkd:=aa fun w'(h:fm w' ad n L w'.heap.size)=>um ad n cap K L (by omega) w' h
 have hkl:=iu L n;have hfr:=aa fun bl bx S w' h1 h2 h3=>aei bl bx ad n cap K least L hn S w' h1 h2 h3
 have hnn:((fa L n).filter fun S=> !(!lz L n least S))=(fa L n).filter (lz L n least):=by simp
 have hd1:=aa fun bf m ad' cap' w' g h1 h2 h3 h4 hf=>hnn▸ai6 bf m (fun S=> !lz L n least S) (fa L n) ad' cap' (by omega) w' g h1 h2 h3 h4 hf
 have hd2:=aa fun b1 b2 m ad' cap' w' g h1 h2 h3 h4 hf=>ai7 b1 b2 m (lz L n least) (fa L n) ad' cap' (by omega) w' g h1 h2 h3 h4 hf
 have hcl:=aa fun ad' cap' w' h=>acs ad' cap' (fa L n) (by omega) w' h
 generalize hF1:(fa L n).filter (lz L n least)=F1 at *;generalize hF2:((fa L n).filter fun S=> !lz L n least S)=F2 at *;clear hF1 hF2 hnn;generalize hks:fa L n=ks at *;clear hks;have hL:=fk.new w ad n cap K;have hX:=Boxed.new (w.alloc (.cells #[.slice ad n cap,.int .i64 K] 52)) 3 (.int .i64 least);have hA:Below w.heap.size w ((w.alloc (.cells #[.slice ad n cap,.int .i64 K] 52)).alloc (.cells #[.int .i64 least] 3)):=(ae.alloc ac _).alloc (by simp) _;have hL2:=hL.below ((aw (w.heap.size+1) _).alloc (by simp) (.cells #[.int .i64 least] 3)) (Nat.lt_succ_self _);rw[bg]at hX;have hsz:((w.alloc (.cells #[.slice ad n cap,.int .i64 K] 52)).alloc (.cells #[.int .i64 least] 3)).heap.size=w.heap.size+2:=by simp
 have HR0:=aa hR;have hX3:=Boxed.new ((w.alloc (.cells #[.slice ad n cap,.int .i64 K] 52)).alloc (.cells #[.int .i64 least] 3)) 228 (.func (.func 193) #[] #[.pointer (some ⟨w.heap.size,0,none⟩),.pointer (some ⟨w.heap.size+1,0,none⟩)]);have hA3:=(aw (w.heap.size+2) ((w.alloc (.cells #[.slice ad n cap,.int .i64 K] 52)).alloc (.cells #[.int .i64 least] 3))).alloc (by omega) (.cells #[.func (.func 193) #[] #[.pointer (some ⟨w.heap.size,0,none⟩),.pointer (some ⟨w.heap.size+1,0,none⟩)]] 228);have HL3:=aa (hL2.below hA3 (by omega));have HX1:=aa (Boxed.below hX hA3 (by omega));rw[hsz]at hX3;have HX3:=aa hX3;have HA3:=aa (hA.trans (hA3.mono (by omega)));obtain⟨c0,c1,cl⟩:=id HL3.out;have hsz3:(((w.alloc (.cells #[.slice ad n cap,.int .i64 K] 52)).alloc (.cells #[.int .i64 least] 3)).alloc (.cells #[.func (.func 193) #[] #[.pointer (some ⟨w.heap.size,0,none⟩),.pointer (some ⟨w.heap.size+1,0,none⟩)]] 228)).heap.size=w.heap.size+3:=by simp
 have HSZ3:=aa hsz3;clear hR hL hX hL2 hA hA3 hX3 hsz hsz3;go_enter func146,ntmps146;go_wp2_with fail
 generalize (((w.alloc (.cells #[.slice ad n cap,.int .i64 K] 52)).alloc (.cells #[.int .i64 least] 3)).alloc (.cells #[.func (.func 193) #[] #[.pointer (some ⟨w.heap.size,0,none⟩),.pointer (some ⟨w.heap.size+1,0,none⟩)]] 228))=W0 at HL3 HX1 HX3 HA3 c0 c1 cl HSZ3⊢;have hz0:=HSZ3.out;refine(hkd.out _ ((HR0.out.below HA3.out ac).mono HA3.out.size)).mono ?_;rintro e w1⟨v1,rfl,ho1,hb1⟩;obtain⟨adk,capk,rfl⟩:=ey ho1;have HK1:=aa (o7 ho1);have hz1:=hb1.size;have HB1:=aa (HA3.out.trans (hb1.mono HA3.out.size));have HL1:=aa (HL3.out.below hb1 cl);have HX1:=aa (Boxed.below HX1.out hb1 HX1.out.lt);have HX3:=aa (Boxed.below HX3.out hb1 HX3.out.lt);clear c0 c1 cl hb1 ho1 HL3;have x3:=HX3.out.cell;have x3l:=HX3.out.lt;have HFQ:Hid (∀S w',Below (w.heap.size+3) w1 w'->Calls prog 193 #[cv S,.pointer (some ⟨w.heap.size,0,none⟩),.pointer (some ⟨w.heap.size+1,0,none⟩)] w' fun e w2=>e=.returned (.bool (lz L n least S))/\Below w'.heap.size w' w2):=
  aa fun S w' hb=>hfr.out _ _ S w' (HL1.out.below hb (by omega)) (((HR0.out.below HB1.out ac).below hb (by omega)).mono (by have:=hb.size;omega)) (Boxed.below HX1.out hb (by omega))
 have HRQ:Hid (∀S w',Below (w.heap.size+3) w1 w'->Calls prog 194 #[cv S,.pointer (some ⟨w.heap.size+2,0,none⟩)] w' fun e w2=>e=.returned (.bool (!lz L n least S))/\Below w'.heap.size w' w2):=
  aa fun S w' hb=>ap2 _ _ _ (lz L n least) S w' (Boxed.below HX3.out hb (by omega)) fun w2 h2=>HFQ.out S w2 (hb.trans (h2.mono (by have:=hb.size;omega)))
 have HKd:Hid (fm w1.drew adk ks.length (gc ks) w1.drew.heap.size):=aa HK1.out;have hw13:w.heap.size+3<=w1.heap.size:=by omega
 have x3d:w1.drew.cell? ⟨w.heap.size+2,0,none⟩=some (.func (.func 193) #[] #[.pointer (some ⟨w.heap.size,0,none⟩),.pointer (some ⟨w.heap.size+1,0,none⟩)]):=x3;go_wp2_with fail
 go_region_held3 (fun w'=>w'.cell? ⟨w.heap.size+2,0,none⟩=some (.func (.func 193) #[] #[.pointer (some ⟨w.heap.size,0,none⟩),.pointer (some ⟨w.heap.size+1,0,none⟩)])) (with_reducible assumption)
  (first
   |(go_at_call 161;have hKK:=hRf;refine(hcl.out _ _ _ ((HK1.out.below hOD ac).mono hOD.size)).mono ?_;rintro e wC⟨vC,rfl,hoC,hbC⟩;obtain⟨adC,capC,rfl⟩:=ey hoC;obtain⟨gC,gC1,gC2,gC3,gC4⟩:=ze hbC.size hoC;have xC:=(hbC.cell (p:=⟨w.heap.size+2,0,none⟩) (by have:=hOD.size;show w.heap.size+2<_;omega)).trans xD)
   |(go_at_call 161;refine(hcl.out _ _ _ HKd.out).mono ?_;rintro e wA⟨vA,rfl,hoA,hbA⟩;obtain⟨adA,capA,rfl⟩:=ey hoA;obtain⟨gA,gA1,gA2,gA3,gA4⟩:=ze hbA.size hoA;have xA:=(hbA.cell (p:=⟨w.heap.size+2,0,none⟩) x3l).trans x3)
   |(go_at_call 195;refine(hd2.out _ _ (w.heap.size+3) _ _ _ gC (ba (ba hw13 hOD.size) gC1) gC3 gC4 gC2 (fun S w' hb=>HFQ.out S w' ((hOD.mono hw13).trans ((hbC.mono (ba hw13 hOD.size)).trans hb)))).mono ?_;rintro e wE⟨adG,capG,rfl,hRg,hbE⟩;have xE:=(hbE.cell (p:=⟨w.heap.size+2,0,none⟩) (az x3l (ba hOD.size gC1))).trans xC;have hDE:Below wD.heap.size wD wE:=hbC.trans (hbE.mono gC1))
   |(go_at_call 195;refine(hd1.out _ (w.heap.size+3) _ _ _ gA (ba hw13 gA1) gA3 gA4 gA2 (fun S w' hb=>HRQ.out S w' ((ae.drew.trans (hbA.mono hw13)).trans hb))).mono ?_;rintro e wD⟨adF,capF,rfl,hRf,hbD⟩;have xD:=(hbD.cell (p:=⟨w.heap.size+2,0,none⟩) (az x3l gA1)).trans xA;have hOD:Below w1.heap.size w1 wD:=(ae.drew.trans hbA).trans (hbD.mono gA1)))
 have hRF:=(hRf.below hDE ac).mono hDE.size;have hBE:=HB1.out.trans ((hOD.trans (hDE.mono hOD.size)).mono HB1.out.size);go_wp2_with fail
 go_ret2
 exact⟨_,_,_,_,rfl,hRF,hRg,hBE⟩
end
section
def memb(L:Nat->Nat->Bool)(ks:List (Nat->Bool))(n j b:Nat):Bool:=decide (j<n)&&(L j b&&nr (L j) ks)
def gu(L:Nat->Nat->Bool)(ks:List (Nat->Bool))(b:Nat):Nat->List Int
 |0=>[]
 |k+1=>if L k b&&nr (L k) ks then gu L ks b k++[(k:Int)]else gu L ks b k
theorem u4(L:Nat->Nat->Bool)(ks:List (Nat->Bool))(b k:Nat):(gu L ks b k).length<=k:=by
 induction k with
 |zero=>exact ac
 |succ k ih=>simp only[gu];split<;>(try rw[bd,List.length_singleton])<;>omega
theorem vt(L:Nat->Nat->Bool)(ks:List (Nat->Bool))(b k:Nat)(x:Int):x∈gu L ks b k↔∃j:Nat,x=j/\j<k/\(L j b&&nr (L j) ks)=true:=by
 induction k with
 |zero=>simp[gu]
 |succ k ih=>
  simp only[gu];by_cases h:(L k b&&nr (L k) ks)=true
  ·rw[if_pos h,List.mem_append,ih,cd]
   constructor
   ·rintro(⟨j,rfl,hj,hc⟩|rfl)
    ·exact⟨j,rfl,by omega,hc⟩
    ·exact⟨k,rfl,by omega,h⟩
   ·rintro⟨j,rfl,hj,hc⟩
    by_cases he:j=k
    ·subst he;exact .inr rfl
    ·exact .inl ⟨j,rfl,by omega,hc⟩
  ·rw[if_neg h,ih]
   constructor
   ·rintro⟨j,rfl,hj,hc⟩;exact⟨j,rfl,by omega,hc⟩
   ·rintro⟨j,rfl,hj,hc⟩
    by_cases he:j=k
    ·subst he;exact absurd hc h
    ·exact⟨j,rfl,by omega,hc⟩
theorem adh(L:Nat->Nat->Bool)(ks:List (Nat->Bool))(b k:Nat):(gu L ks b k).Nodup:=by
 induction k with
 |zero=>exact List.nodup_nil
 |succ k ih=>
  simp only[gu];split
  ·rw[List.nodup_append]
   refine⟨ih,List.nodup_cons.2 ⟨List.not_mem_nil,List.nodup_nil⟩,fun a ha c hc=>?_⟩;obtain⟨j,rfl,hj,-⟩:=(vt L ks b k a).1 ha;rw[cd]at hc;omega
  ·exact ih
def qj(t:ByteArray)(L:Nat->Nat->Bool)(ks:List (Nat->Bool))(n i k:Nat):Nat:=j0 (fun i'=>decide (k<=i')&&memb L ks n (i'-k) (tb t i')) i
def u7(t:ByteArray)(L:Nat->Nat->Bool)(ks:List (Nat->Bool))(n i q k:Nat):Nat:=qj t L ks n i k+oz (decide (k<=i)&&decide (((i:Int)-k)∈(gu L ks (tb t i) n).take q))
theorem ahw(t:ByteArray)(L:Nat->Nat->Bool)(ks:List (Nat->Bool))(n i k:Nat):u7 t L ks n i 0 k=qj t L ks n i k:=by simp[u7,oz]
theorem amd(t:ByteArray)(L:Nat->Nat->Bool)(ks:List (Nat->Bool))(n i k:Nat):u7 t L ks n i (gu L ks (tb t i) n).length k=qj t L ks n (i+1) k:=by
 unfold u7 qj;rw[dr];show _=j0 _ i+(if decide (k<=i)&&memb L ks n (i-k) (tb t i)then 1 else 0);congr 1;unfold oz;congr 1;rw[eq_iff_iff,ce,ce,cg,cg];refine and_congr_right fun hk=>?_
 rw[vt];unfold memb;rw[ce,cg];constructor
 ·rintro⟨j,hj,hlt,hc⟩
  obtain rfl:j=i-k:=by omega
  exact⟨hlt,hc⟩
 ·rintro⟨hlt,hc⟩
  exact⟨i-k,by omega,hlt,hc⟩
theorem ahx(t:ByteArray)(L:Nat->Nat->Bool)(ks:List (Nat->Bool))(n i q k j:Nat)(hq:q<(gu L ks (tb t i) n).length)(hj:gi (gu L ks (tb t i) n) q=(j:Nat)):u7 t L ks n i (q+1) k=u7 t L ks n i q k+oz (decide (j<=i)&&decide (k=i-j)):=by
 unfold u7;have hgj:(gu L ks (tb t i) n)[q]=(j:Int):=by rw[<-hj];simp[gi,hq]
 have hnd:=adh L ks (tb t i) n;have hnot:(j:Int)∉(gu L ks (tb t i) n).take q:=by
  rw[<-List.take_append_drop q (gu L ks (tb t i) n),List.nodup_append]at hnd;intro hm;refine hnd.2.2 _ hm _ ?_ rfl;rw[ev hq,hgj];exact dp
 rw[da hq,hgj,dy];congr 1;generalize (gu L ks (tb t i) n).take q=l at *;by_cases hk:k<=i
 ·by_cases he:(i:Int)-k=j
  ·have h1:k=i-j:=by omega
   have h2:j<=i:=by omega
   rw[he];simp[h1,h2,hnot,oz]
  ·have h1:¬(j<=i/\k=i-j):=by omega
   have h2:(decide (j<=i)&&decide (k=i-j))=false:=by
    rw[Bool.and_eq_false_iff,dw,dw];omega
   rw[h2];simp[he,oz]
 ·have h2:(decide (j<=i)&&decide (k=i-j))=false:=by
   rw[Bool.and_eq_false_iff,dw,dw];omega
  rw[h2];simp[hk,oz]
theorem ap3(t:ByteArray)(L:Nat->Nat->Bool)(ks:List (Nat->Bool))(n k:Nat)(hk:k+n<=t.size):qj t L ks n t.size k=j0 (fun j=>L j (tb t (k+j))&&nr (L j) ks) n:=by
 unfold qj;obtain⟨r,hr⟩:∃r,t.size=k+(n+r):=⟨t.size-(k+n),by omega⟩;rw[hr,xk,xk];have h1:j0 (fun i'=>decide (k<=i')&&memb L ks n (i'-k) (tb t i')) k=0:=(l6 _ _).2 fun i hi=>by
  rw[bv (by omega),Bool.false_and]
 have h3:j0 (fun i=>decide (k<=k+(n+i))&&memb L ks n (k+(n+i)-k) (tb t (k+(n+i)))) r=0:=(l6 _ _).2 fun i hi=>by
  unfold memb;rw[bv (show¬k+(n+i)-k<n by omega),Bool.false_and,Bool.and_false]
 rw[h1,h3,dg,Nat.add_zero];refine ai8 fun i hi=>?_
 unfold memb;rw[cw (show k<=k+i by omega),Nat.add_sub_cancel_left,cw hi];rfl
def zh:List (Nat->Bool)->Prop
 |[]=>True
 |c::l=>nr c l=false/\zh l
theorem xb{S:Nat->Bool}{l:List (Nat->Bool)}:nr S l=true↔∃T,T∈l/\fj T S=true:=by
 unfold nr;rw[List.any_eq_true]
theorem sk(p:(Nat->Bool)->Bool):∀l,zh l->zh (l.filter p)
 |[],_=>trivial
 |c::l,h=>by
  rw[List.filter_cons];split
  ·refine⟨?_,sk p l h.2⟩
   cases hi:nr c (l.filter p)with
   |false=>rfl
   |true=>
    obtain⟨T,hT,hc⟩:=xb.1 hi;have h1:=h.1;rw[xb.2 ⟨T,(List.mem_filter.1 hT).1,hc⟩]at h1;cases h1
  ·exact sk p l h.2
theorem ajg(l:List (Nat->Bool))(S:Nat->Bool)(h:zh l)(hs:nr S l=false):zh (l++[S]):=by
 induction l with
 |nil=>exact⟨rfl,trivial⟩
 |cons c l ih=>
  simp only[nr,List.any_cons,Bool.or_eq_false_iff]at hs;refine⟨?_,ih h.2 hs.2⟩;show nr c (l++[S])=false;rw[xa,h.1,Bool.false_or,kv,hs.1]
theorem agt(L:Nat->Nat->Bool)(k:Nat):zh (fa L k):=by
 induction k with
 |zero=>trivial
 |succ k ih=>
  by_cases h:(fj (L k) iz||nr (L k) (fa L k))=true
  ·rw[oe h];exact ih
  ·rw[og h]
   rw[Bool.not_eq_true,Bool.or_eq_false_iff]at h;exact ajg _ _ ih h.2
theorem aa1(S:Nat->Bool)(b:Nat)(hb:b<256):∀l,zh l->ab2 S b l=oz (nr S l&&S b)
 |[],_=>rfl
 |c::l,h=>by
  have h1:ab2 S b (c::l)=oz (fj S c)*oz (c b)+ab2 S b l:=by simp[ab2]
  rw[h1,aa1 S b hb l h.2];have h2:nr S (c::l)=(fj c S||nr S l):=by simp[nr]
  rw[h2];cases hc:fj S c with
  |true=>
   rw[kv c S,hc,yg hc,h.1,xn hc hb];simp[oz]
  |false=>rw[kv c S,hc];simp[oz]
theorem aoe(t:ByteArray)(L:Nat->Nat->Bool)(ks:List (Nat->Bool))(h:zh ks)(i n:Nat):ko t L n ks i=j0 (fun j=>L j (tb t (i+j))&&nr (L j) ks) n:=by
 induction n with
 |zero=>rw[acz];rfl
 |succ n ih=>
  have hb:tb t (i+n)<256:=by have:=jq t (i+n);omega
  rw[ac0,ih,aa1 _ _ hb ks h];show _=j0 _ n+(if L n (tb t (i+n))&&nr (L n) ks then 1 else 0);rw[Bool.and_comm];rfl
theorem aod(t:ByteArray)(L:Nat->Nat->Bool)(n i:Nat)(p:(Nat->Bool)->Bool)(ks:List (Nat->Bool)):ko t L n (ks.filter p) i+ko t L n (ks.filter fun S=> !p S) i=ko t L n ks i:=by
 induction ks with
 |nil=>rfl
 |cons c l ih=>
  have hc:∀m,ko t L n (c::m) i=uw t L n c i+ko t L n m i:=fun m=>by simp[ko]
  rw[hc,List.filter_cons,List.filter_cons];cases p c<;>simp[hc]<;>omega
theorem alp(t:ByteArray)(L:Nat->Nat->Bool)(n i:Nat)(p:(Nat->Bool)->Bool)(hi:i+n<=t.size):
 ((ja L n:Nat):Int)-((qj t L ((fa L n).filter fun S=> !p S) n t.size i:Nat)+(ko t L n ((fa L n).filter p) i:Nat))=(ky t L i n:Nat):=by
 rw[ap3 t L _ n i hi,<-aoe t L _ (sk _ _ (agt L n)) i n];have:=aod t L n i p (fa L n);have:=acy t L n i;omega
end
end Go.Proofs.YtjfkmoinldlmaaaGreat
