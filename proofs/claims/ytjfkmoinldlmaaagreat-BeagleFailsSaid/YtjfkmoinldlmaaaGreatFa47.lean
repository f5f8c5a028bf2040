/- The walk of BeagleFails, part 47. Walk of a stream's step, in general. Walks of the joiner's pop and find at any rows. Walk of the joiner's find at any rows. Walks of the joiner's and, or, not, shift at any rows. Walks of Join's checks at any rows. Walk of eval.Join at any tree. Walk of a stream's Result where its text failed. -/
import Derived.Test.YtjfkmoinldlmaaaGreatFa46
import Derived.Test.YtjfkmoinldlmaaaGreatFa36
namespace Go.Proofs.YtjfkmoinldlmaaaGreat
open Go.Proofs.Tryz
section
set_option maxRecDepth 100000
set_option maxHeartbeats 8000000
open Go.RowKit Go.Shelf
structure RunI(w:World)(S FD fp lo base N0:Nat)(T:QT)(t:ByteArray)(to:Nat)(E F sz limit:Int)(sps:List Sp)(ps:List Int)(m b:Nat)(r:Int)(ν:Nat->Nat):Prop where
 str:tu w S FD base N0 T t F sz limit sps m r 0 (t.extract b m) ν
 feed:qr w lo fp t ps m to E
 bm:b<=m/\m<=to/\to<=t.size
 nu:∀(k:Nat)p,(fy (ew T))[k]?=some p->b<=ν k/\ν k<=m+1-p.1.length
 low:S<lo/\FD<lo/\(∀s∈sps,s.nx<lo)/\fp<N0/\base<=fp
theorem aqu{H:ByteArray}(h:H≠⟨#[]⟩):H.toList.isEmpty=false:=by
 refine sg _ (Nat.pos_of_ne_zero fun h0=>h ?_);cases H with
 |mk d=>
  congr;exact Array.eq_empty_of_size_eq_zero h0
theorem tu.below{w w':World}{S FD base N0:Nat}{T:QT}{t:ByteArray}{F sz limit:Int}{sps:List Sp}{m rounds en:Int}{held:ByteArray}{ν:Nat->Nat}(h:tu w S FD base N0 T t F sz limit sps m rounds en held ν)(hb:Below w.heap.size w w'):tu w' S FD base N0 T t F sz limit sps m rounds en held ν:=by
 obtain⟨⟨aq,cq,asr,csr,hS,hcq,hN,hT⟩,hsl,hSr,⟨vs,hFd⟩,hlo,hn0⟩:=h;exact⟨⟨aq,cq,asr,csr,hS.below hb hS.lt,hcq,hN.below hb,hT.keep (.below hb)⟩,hsl,hSr.below hb ac,⟨vs,hFd.below hb⟩,hlo,ba hn0 hb.size⟩
theorem aba{T:QT}(h:ir T=true){k:Nat}{p:List (Nat->Bool)×Nat}(hp:(fy (ew T))[k]?=some p):1<=p.1.length/\p.1.length<=64/\p.1.length<=te (fy (ew T))/\fv p.1.length (gc p.1) (p.2:Nat)=true:=by
 have hm:=dm hp;have h2:=akd _ p hm;have h3:=j6 h (show(p.1,p.2)∈_ from hm);have h4:=h3;unfold fv at h4;simp only[ce,cg]at h4;exact⟨h4.1,h4.2.1,h2,h3⟩
def asm(S FD fp lo base N0:Nat)(T:QT)(t:ByteArray)(to:Nat)(E F sz limit:Int)(sps:List Sp)(ps:List Int)(m:Nat)(w:World)(e:Ending)(w':World):Prop:=
 Below base w w'/\((e=.returned (.bool true)/\m<to/\∃b' r' ν',RunI w' S FD fp lo base N0 T t to E F sz limit sps ps.tail (m+rdN ps (to-m)) b' r' ν')∨
  (e=.returned (.bool false)/\∃r' h' ν',tu w' S FD base N0 T t F sz limit sps to r' E h' ν'/\∀(k:Nat)p,(fy (ew T))[k]?=some p->ν' k=to+1-p.1.length))
def nuQ(ν:Nat->Nat)(m:Nat)(Ls:List (List (Nat->Bool)×Nat))(q:Nat)(i:Nat):Nat:=if i<q then nxt (ν i) m (lenK Ls i)else ν i
theorem aft(ν:Nat->Nat)(m:Nat)(Ls:List (List (Nat->Bool)×Nat)):nuQ ν m Ls 0=ν:=by
 funext i;simp[nuQ]
theorem aqr(ν:Nat->Nat)(m:Nat)(Ls:List (List (Nat->Bool)×Nat))(q:Nat):nuQ ν m Ls q q=ν q:=by simp[nuQ]
theorem aa4(ν:Nat->Nat)(m:Nat)(Ls:List (List (Nat->Bool)×Nat))(q:Nat):nuQ ν m Ls (q+1)=fun i=>if i=q then nxt (ν q) m (lenK Ls q)else nuQ ν m Ls q i:=by
 funext i;unfold nuQ;by_cases h:i=q
 ·subst h;simp
 ·rw[if_neg h]
  by_cases h2:i<q
  ·rw[if_pos (by omega),if_pos h2]
  ·rw[if_neg (by omega),if_neg h2]
theorem alw(t:ByteArray)(ν:Nat->Nat)(m:Nat)(Ls:List (List (Nat->Bool)×Nat))(q:Nat){p:List (Nat->Bool)×Nat}(hp:Ls[q]?=some p):adc t Ls (nuQ ν m Ls (q+1))=fun i=>if i=q then qm t p.1.length (gc p.1) (p.2:Nat) (nxt (ν q) m p.1.length)else adc t Ls (nuQ ν m Ls q) i:=by
 funext i;by_cases h:i=q
 ·subst h
  rw[if_pos rfl,ac9 hp,aa4];simp only[if_true];rw[aee hp]
 ·rw[if_neg h]
  unfold adc;rw[aa4];simp only[if_neg h]
structure RdL(W3 w:World)(S FD N0:Nat)(Ls:List (List (Nat->Bool)×Nat))(sps:List Sp)(t:ByteArray)(ν:Nat->Nat)(m q:Nat)(vs:List Value):Prop where
 sr:SrI w S N0 Ls sps (nuQ ν m Ls q)
 fd:FdI w FD N0 Ls.length (adc t Ls (nuQ ν m Ls q)) vs
 kt:∀ty,ty≠24->ty≠3->Kt ty W3 w
 ex:ExP (fun i=>i=FD\/(∃s∈sps,i=s.nx)\/N0<=i) W3 w
theorem afu{ν:Nat->Nat}{m q k:Nat}{Ls:List (List (Nat->Bool)×Nat)}{p:List (Nat->Bool)×Nat}(hk:k<q)(hp:Ls[k]?=some p)(h:ν k<=m+1-p.1.length):nuQ ν m Ls q k=m+1-p.1.length:=by
 unfold nuQ nxt;rw[if_pos hk,aee hp];omega
theorem ext_app(t:ByteArray)(b m k:Nat)(h1:b<=m)(h2:m<=k):t.extract b m++t.extract m k=t.extract b k:=(ByteArray.extract_eq_extract_append_extract m h1 h2).symm
theorem ext_ext(t:ByteArray)(b m x:Nat)(hb:b<=m):(t.extract b m).extract x (m-b)=t.extract (b+x) m:=by
 rw[ByteArray.extract_extract];congr 1;omega
theorem ao4(S FD fp lo base N0:Nat)(T:QT)(hrT:ir T=true)(t:ByteArray)(to:Nat)(E:Int)(hE:E≠0)(F sz limit:Int)(sps:List Sp)(ps:List Int)(m b:Nat)(r:Int)(ν:Nat->Nat)(ht:t.size<=1000)(hps:ps.length<=1000)(w:World)(hI:RunI w S FD fp lo base N0 T t to E F sz limit sps ps m b r ν):
 Calls prog 28 #[.pointer (some ⟨S,0,none⟩),.pointer (some ⟨fp,0,none⟩)] w (asm S FD fp lo base N0 T t to E F sz limit sps ps m w):=by
 obtain⟨⟨⟨aq,cq,asr,csr,hS,hcq,hN,hT⟩,hsl,hSr,⟨vs,hFd⟩,⟨lo1,lo2,lo3,lo4⟩,hn0⟩,hfeed,⟨hbm,hmt,htt⟩,hnu,⟨w1,w2,w3,w4,w5⟩⟩:=hI
 have h1:Hid (Calls prog 60 #[.pointer (some ⟨fp,0,none⟩)] w fun e w'=>∃(pc:ByteArray)(en:Int)(m':Nat)(ps':List Int),e=.returned (.tuple #[.string pc,.int .i64 en])/\Ex [fp] w w'/\m<=m'/\m'<=to/\t.extract b m++pc=t.extract b m'/\(pc.size:Int)=(m':Int)-m/\qr w' lo fp t ps' m' to E∧
  ((en=0/\m<to/\m'=m+rdN ps (to-m)/\ps'=ps.tail)\/(en=E/\m=to/\m'=to))):=aa (by
  by_cases hlt:m<to
  ·refine(apy lo fp t ht ps hps m to hlt E w hfeed).mono ?_
   rintro e w'⟨rfl,hf,he⟩
   have hr:=apz ps (to-m)
   exact⟨_,0,m+rdN ps (to-m),ps.tail,rfl,he,by omega,by omega,ext_app t b m _ hbm (by omega),by rw[ByteArray.size_extract];omega,hf,.inl ⟨rfl,hlt,rfl,rfl⟩⟩
  ·obtain rfl:m=to:=by omega
   refine(apx fp t ps m E w hfeed.st).mono ?_
   rintro e w'⟨rfl,hb⟩
   exact⟨_,E,m,ps,rfl,Ex.of hb,ac,ac,ByteArray.append_empty,by simp;rfl,hfeed.below hb,.inr ⟨rfl,rfl,rfl⟩⟩)
 have HS:=aa hS;have HN:=aa hN;have HT:=aa hT;have HSr:=aa hSr;have HFd:=aa hFd;have HNu:=aa hnu;have HLo3:=aa lo3;have HW3:=aa w3;have c8:=hS.cell 8;have sl:=hS.lt;simp only[ak,am,au]at c8;have HFp:Hid (∃cs,At w fp (.cells cs 132)):=aa (by obtain⟨ad,cap,h,_⟩:=hfeed.at_;exact⟨_,h⟩);have hll:=se (ew T);have hl64:=m9 hrT;have hlI:((fy (ew T)).length:Int)<=64:=by omega
 have hti:(t.size:Int)<=1000:=by omega
 have HRT:=aa hrT;have HCQ:=aa hcq;have hLN:(te (fy (ew T)):Int)<=64:=by
  have:=lng_le (fy (ew T)) 64 fun x hx=>by
   have:=j6 hrT (show(x.1,x.2)∈_ from hx);unfold fv at this;simp only[ce,cg]at this;omega
  omega
 have hLN1:1<=te (fy (ew T)):=by
  have hp:=aka T;obtain⟨p,hp⟩:∃p,(fy (ew T))[0]?=some p:=⟨_,bs (by omega)⟩;have hm:=dm hp;have h2:=akd _ p hm;have:=j6 hrT (show(p.1,p.2)∈_ from hm);unfold fv at this;simp only[ce,cg]at this;omega
 clear hS hN hT hSr hFd hnu hrT hcq hfeed lo3 w3;obtain⟨h0,hh0⟩:∃h0,h0=t.extract b m:=⟨_,rfl⟩;rw[<-hh0]at HS h1;have HH0:=aa hh0;clear hh0;go_enter func28,ntmps28;go_wp2_with fail
 refine wn 0 rfl ?_;go_wp2_with fail
 go_at_call 60;refine h1.out.mono ?_;rintro e x1⟨pc,en,m',ps',rfl,hE1,hm1,hm2,hcat,hpc,hF1,hcase⟩;have hkt:∀ty,ty≠132->Kt ty w x1:=fun ty hty=>by
  obtain⟨cs,h⟩:=HFp.out;exact Kt.at1 hE1 h (fun e=>hty e.symm)
 have hS1:At x1 S (zk m r (.slice aq (ew T).length cq) F sz limit (te (fy (ew T)):Nat) h0 0 (.slice asr (fy (ew T)).length csr) (.slice (some ⟨FD,0,none⟩) (fy (ew T)).length (fy (ew T)).length)):=hkt 137 (by decide) _ _ _ HS.out;have k0:=hS1.cell 0;have k5:=hS1.cell 5;have k7:=hS1.cell 7;have k8:=hS1.cell 8;have z0:=hS1.free 0;have z7:=hS1.free 7;have z8:=hS1.free 8;have l1:=hS1.lt;simp only[ak,am,au]at k0 k5 k7 k8;obtain⟨H,hH⟩:∃H,H=t.extract b m':=⟨_,rfl⟩;have hcat':h0++pc=H:=by rw[hH,<-hcat]
 have hHs:(H.size:Int)=(m':Int)-b:=by rw[hH,ByteArray.size_extract];omega
 have hadd:(m:Int)+pc.size=m':=by omega
 have HS1:=aa hS1;have HF1:=aa hF1;have HE1:=aa hE1;have HKT:=aa hkt;have HHH:=aa hH;have hmi:(m':Int)<=1000:=by omega
 have hm0:(m:Int)<=1000:=by omega
 have hpz:pc.size<=1000:=by omega
 have HHs:=aa hHs;have hHz:H.size<=1000:=by omega
 clear hS1 hF1 hE1 hkt hcat hH h1 hpc hHs;have hE1:(E==0)=false:=by rw[ax];exact hE
 have hE2:(E !=0)=true:=by rw[bne_iff_ne];exact hE
 have hcs:h0.size+pc.size<=9223372036854775807:=by
  have:=HH0.out;rw[this,ByteArray.size_extract];omega
 go_wp2_with fail
 have hS2:At (((x1.setCell ⟨S,7,none⟩ (.string H)).setCell ⟨S,0,none⟩ (.int .i64 (m':Nat))).setCell ⟨S,8,none⟩ (.int .i64 en)) S (zk m' r (.slice aq (ew T).length cq) F sz limit (te (fy (ew T)):Nat) H en (.slice asr (fy (ew T)).length csr) (.slice (some ⟨FD,0,none⟩) (fy (ew T)).length (fy (ew T)).length)):=((HS1.out.set 7 _).set 0 _).set 8 _;have hX2:Ex [S] x1 (((x1.setCell ⟨S,7,none⟩ (.string H)).setCell ⟨S,0,none⟩ (.int .i64 (m':Nat))).setCell ⟨S,8,none⟩ (.int .i64 en)):=(((Ex.refl [S] x1).set S 7 _ (by simp)).set S 0 _ (by simp)).set S 8 _ (by simp);have hkt2:∀ty,ty≠132->ty≠137->Kt ty w (((x1.setCell ⟨S,7,none⟩ (.string H)).setCell ⟨S,0,none⟩ (.int .i64 (m':Nat))).setCell ⟨S,8,none⟩ (.int .i64 en)):=fun ty h1 h2=>(HKT.out ty h1).trans (Kt.at1 hX2 HS1.out (fun e=>h2 e.symm))
 have HFd2:=aa ((HFd.out.ex HE1.out HFp.out.choose_spec).ex hX2 HS1.out);have HSr2:=aa ((HSr.out.ex HE1.out HFp.out.choose_spec).ex hX2 HS1.out);have HN2:=aa (HN.out.keep (hkt2 81 (by decide) (by decide)) (hkt2 100 (by decide) (by decide)));have HT2:=aa (HT.out.keep (hkt2 140 (by decide) (by decide)));have HF2:Hid (qr (((x1.setCell ⟨S,7,none⟩ (.string H)).setCell ⟨S,0,none⟩ (.int .i64 (m':Nat))).setCell ⟨S,8,none⟩ (.int .i64 en)) lo fp t ps' m' to E):=aa (HF1.out.keep fun i h1 h2=>hX2.block i (Nat.lt_of_le_of_lt h2 (by obtain⟨ad,cap,h,_⟩:=HF1.out.at_;exact h.lt)) (by simp;omega));have HE2:=aa (HE1.out.trans hX2);clear HS1 HE1 HF1 hX2 hkt2 k0 k5 k7 k8 z0 z7 z8 l1 HN HT HSr HFd HKT HS c8 sl;generalize (((x1.setCell ⟨S,7,none⟩ (.string H)).setCell ⟨S,0,none⟩ (.int .i64 (m':Nat))).setCell ⟨S,8,none⟩ (.int .i64 en))=W2 at *;have hE2s:=HE2.out.size;have hB2:Below base w W2:=HE2.out.below (ba lo4 hn0) (by intro x hx;simp at hx;omega);have HB2:=aa hB2;have hz2:=ba (ba lo4 hn0) hE2s;have hn2:N0<=W2.heap.size:=ba hn0 hE2s;have k1:=hS2.cell 1;have k5:=hS2.cell 5;have k6:=hS2.cell 6;have k7:=hS2.cell 7;have k9:=hS2.cell 9;have z1:=hS2.free 1;have l2:=hS2.lt;simp only[ak,am,au]at k1 k5 k6 k7 k9;have HS2:=aa hS2;clear hS2 hB2 HE2;rcases hcase with⟨rfl,hmlt,hmr,hpr⟩|⟨rfl,rfl,rfl⟩
 have HMR:=aa hmr;have HPR:=aa hpr;clear hmr hpr;by_cases hlm:limit<=(H.size:Int);rotate_left 1
 ·have hd:decide (limit<=(H.size:Int))=false:=bv hlm
  go_quiet(fail)
  go_wp2_with fail
  simp only[Exit.jump];go_ret;have hD:=cu (aw W2.heap.size W2) nq;have e1:=HMR.out;have e2:=HPR.out;subst e2;refine⟨HB2.out.trans (hD.mono hz2),.inl ⟨rfl,hmlt,b,r,ν,?_⟩⟩;rw[<-e1];refine⟨tu.below ⟨⟨aq,cq,asr,csr,by rw[<-HHH.out];exact HS2.out,HCQ.out,HN2.out,HT2.out⟩,hsl,HSr2.out,⟨vs,HFd2.out⟩,⟨lo1,lo2,HLo3.out,lo4⟩,hn2⟩ hD,HF2.out.below hD,⟨by omega,by omega,htt⟩,fun k p hp=>?_,⟨w1,w2,HW3.out,w4,w5⟩⟩;have:=HNu.out k p hp;omega
 by_cases hem:H=⟨#[]⟩
 ·have hie:H.toList.isEmpty=true:=by rw[hem];decide+kernel
  have hd:decide (H=⟨#[]⟩)=true:=cw hem;have Hem:=aa hem;clear hem;go_quiet(fail)
  go_wp2_with fail
  simp only[Exit.jump];go_ret;have hD:=cu (aw W2.heap.size W2) nq;have hHs:=HHs.out;rw[Hem.out]at hHs;have hz0:((⟨#[]⟩:ByteArray).size:Int)=0:=rfl;refine⟨HB2.out.trans (hD.mono hz2),.inr ⟨rfl,r,H,ν,tu.below ⟨⟨aq,cq,asr,csr,HS2.out,HCQ.out,HN2.out,HT2.out⟩,hsl,HSr2.out,⟨vs,HFd2.out⟩,⟨lo1,lo2,HLo3.out,lo4⟩,hn2⟩ hD,fun k p hp=>?_⟩⟩;have h1:=HNu.out k p hp;have h2:=aba HRT.out hp;omega
 have hd:decide (H=⟨#[]⟩)=false:=bv hem;have hie:H.toList.isEmpty=false:=aqu hem;rotate_left 1
 have hd:decide (limit<=(H.size:Int))=true:=cw hlm;all_goals(go_quiet(fail))
 all_goals(go_wp2_with fail)
 all_goals
  all_goals(try go_step3)
  all_goals(refine⟨rfl,?_⟩)
  all_goals(dsimp only)
  go_wp2_with fail
  have hD:=cu (aw W2.heap.size W2) nq;have hSd:At (W2.drewN nq) S (zk m' r (.slice aq (ew T).length cq) F sz limit (te (fy (ew T)):Nat) H _ (.slice asr (fy (ew T)).length csr) (.slice (some ⟨FD,0,none⟩) (fy (ew T)).length (fy (ew T)).length)):=HS2.out.below hD l2;have hS3:At ((W2.drewN nq).setCell ⟨S,1,none⟩ (.int .i64 (wrap64 (r+1)))) S (zk m' (wrap64 (r+1)) (.slice aq (ew T).length cq) F sz limit (te (fy (ew T)):Nat) H _ (.slice asr (fy (ew T)).length csr) (.slice (some ⟨FD,0,none⟩) (fy (ew T)).length (fy (ew T)).length)):=hSd.set 1 _;have hE3:Ex [S] (W2.drewN nq) ((W2.drewN nq).setCell ⟨S,1,none⟩ (.int .i64 (wrap64 (r+1)))):=(Ex.refl [S] (W2.drewN nq)).set S 1 _ (by simp);have hk3:∀ty,ty≠137->Kt ty W2 ((W2.drewN nq).setCell ⟨S,1,none⟩ (.int .i64 (wrap64 (r+1)))):=fun ty h=>(Kt.below hD).trans (Kt.at1 hE3 hSd (fun e=>h e.symm))
  have HS3:=aa hS3;have HSr3:=aa ((HSr2.out.below hD ac).ex hE3 hSd);have HFd3:=aa ((HFd2.out.below hD).ex hE3 hSd);have HN3:=aa (HN2.out.keep (hk3 81 (by decide)) (hk3 100 (by decide)));have HT3:=aa (HT2.out.keep (hk3 140 (by decide)));have HF3:Hid (qr ((W2.drewN nq).setCell ⟨S,1,none⟩ (.int .i64 (wrap64 (r+1)))) lo fp t ps' m' _ _):=aa ((HF2.out.below hD).keep fun i h1 h2=>hE3.block i (Nat.lt_of_le_of_lt h2 (by obtain⟨ad,cap,h,_⟩:=(HF2.out.below hD).at_;exact h.lt)) (by simp;omega));have HB3:Hid (Below base w ((W2.drewN nq).setCell ⟨S,1,none⟩ (.int .i64 (wrap64 (r+1))))):=aa ((HB2.out.trans (hD.mono hz2)).trans (hE3.below (ba hz2 hD.size) (by intro x hx;rw[cd.1 hx];exact lo1)));have hn3:N0<=((W2.drewN nq).setCell ⟨S,1,none⟩ (.int .i64 (wrap64 (r+1)))).heap.size:=ba (ba hn2 hD.size) hE3.size;clear hD hSd hS3 hE3 hk3 HS2 HSr2 HFd2 HN2 HT2 HF2 HB2 k1 k5 k6 k7 k9 z1 l2 hz2 hn2;generalize ((W2.drewN nq).setCell ⟨S,1,none⟩ (.int .i64 (wrap64 (r+1))))=W3 at *;generalize wrap64 (r+1)=r1 at *;go_loopw[83] (fun i wr=>∃(q:Nat)(us:List Value),q<=(fy (ew T)).length/\i=.int .i64 (q:Nat)/\RdL W3 wr S FD N0 (fy (ew T)) sps t ν m' q us) (fun i _=>(fy (ew T)).length-(intOf i).toNat)
  case atStart=>exact⟨0,vs,cx _,rfl,by rw[aft];exact HSr3.out,by rw[aft];exact HFd3.out,fun ty _ _=>Kt.refl ty W3,ExP.refl _ W3⟩
  case round=>
   clear HSr3 HFd3;obtain⟨q,us,hq,rfl,hL⟩:=hrel;have HL:=aa hL;clear hL;have hSr:At wr S (zk m' r1 (.slice aq (ew T).length cq) F sz limit (te (fy (ew T)):Nat) H _ (.slice asr (fy (ew T)).length csr) (.slice (some ⟨FD,0,none⟩) (fy (ew T)).length (fy (ew T)).length)):=HL.out.kt 137 (by decide) (by decide) _ _ _ HS3.out;have k0:=hSr.cell 0;have k6:=hSr.cell 6;have k7:=hSr.cell 7;have z7:=hSr.free 7;have lr:=hSr.lt;simp only[ak,am,au]at k0 k6 k7;have HSr:=aa hSr;clear hSr;by_cases hlt:q<(fy (ew T)).length
   ·obtain⟨p,hp⟩:∃p,(fy (ew T))[q]?=some p:=⟨_,bs hlt⟩
    obtain⟨s,hs⟩:∃s,sps[q]?=some s:=⟨_,bs (by omega)⟩;obtain⟨v,hv⟩:∃v,us[q]?=some v:=⟨_,bs (by rw[HL.out.fd.len];exact hlt)⟩;have hlti:(q:Int)<(fy (ew T)).length:=by omega
    have hq0:(0:Int)<=q:=by omega
    have hleaf:=aba HRT.out hp;have hnu:=HNu.out q p hp;have hDr:Below wr.heap.size wr wr.drew:=ae.drew;have HSD:=aa (HL.out.sr.below hDr ac);have HFD:=aa (HL.out.fd.below hDr);have HCL:Hid (Calls prog 162 #[.int .i64 (b:Nat),.string H,.pointer (some ⟨s.own,0,none⟩),.pointer (some ⟨s.sb,0,none⟩),.pointer (some ⟨s.nx,0,none⟩),.pointer (some ⟨s.kb,0,none⟩)] wr.drew (asu FD s.nx q N0 us v (qm t p.1.length (gc p.1) (p.2:Nat) (nxt (ν q) m' p.1.length)) (nxt (ν q) m' p.1.length) wr.drew)):=aa (by
     obtain⟨g1,g2,g3,g4⟩:=HSD.out.one q p s hp hs
     rw[aqr]at g1
     have hO:=HFD.out.own q v hv
     rw[ac9 hp,aqr]at hO
     have hol:=amz t p.1.length (gc p.1) (p.2:Nat) (ν q)
     have hb:=agl S q s.own s.sb s.nx s.kb FD (fy (ew T)).length (fy (ew T)).length N0 s.cap s.ad p (ν q) b (by omega) (by omega) m' r1 F sz limit (te (fy (ew T)):Nat) _ (.slice aq (ew T).length cq) (.slice asr (fy (ew T)).length csr) H H (by omega) hleaf.2.2.2 us HFD.out.len (by omega) hlt v hv _ (by omega) wr.drew (HSr.out.below hDr lr) HFD.out.at_ g1 hO g3 g4 (ba hn3 (ba HL.out.ex.size hDr.size))
     have hor:=amx t p.1.length (gc p.1) (p.2:Nat) hleaf.2.2.2 b (ν q) m' hnu.1 (by omega) (by omega)
     have hbm':b+H.size=m':=by have:=HHs.out;omega
     rw[<-HHH.out,]at hor
     rw[<-hor,hbm']at hb
     exact hb)
    obtain⟨ab,ao,rfl,hal,hac⟩:=(HT3.out.keep (HL.out.kt 140 (by decide) (by decide))).cell (show 0<(fy (ew T)).length by omega);have hfn:wr.cell? ⟨ab,ao+q,none⟩=some (s7 s.own s.sb s.nx s.kb):=hac q _ (by rw[List.getElem?_map,hs];rfl);have hsub:(m':Int)-H.size=b:=by have:=HHs.out;omega
    have hwb:IntKind.i64.wrap (b:Int)=b:=by rw[ci];omega
    have HP:=aa hp;have HSs:=aa hs;have HV:=aa hv;clear hp hs hv hleaf hnu hac hDr;go_wp2_with fail
    have dA:wr.drew.cell? ⟨S,0,none⟩=some (.int .i64 (m':Nat))/\wr.drew.cell? ⟨S,7,none⟩=some (.string H):=⟨k0,k7⟩;refine wp_region_held_drew (S:=fun w'=>w'.cell? ⟨S,0,none⟩=some (.int .i64 (m':Nat))/\w'.cell? ⟨S,7,none⟩=some (.string H)) (by kernel_rfl) dA (fun hS=>?_);refine tk 0 87 (s7 s.own s.sb s.nx s.kb) hS ?_;refine tk 1 88 (.pointer (some ⟨S,0,none⟩)) hS ?_;refine tk 2 89 (.pointer (some ⟨S,0,none⟩)) hS ?_;refine tk 3 90 (.pointer (some ⟨S,0,none⟩)) hS ?_;refine tk 4 91 (.pointer (some ⟨S,0,none⟩)) hS ?_;refine tk 5 92 (.int .i64 (m':Nat)) hS ?_;refine tk 6 93 (.pointer (some ⟨S,0,none⟩)) hS ?_;refine tk 7 94 (.pointer (some ⟨S,0,none⟩)) hS ?_;refine tk 8 95 (.pointer (some ⟨S,7,none⟩)) hS ?_;refine tk 9 96 (.string H) hS ?_;refine tk 10 97 (.int .i64 (H.size:Nat)) hS ?_;refine tk 11 98 (.int .i64 (b:Nat)) hS ?_;refine tk 12 99 (.pointer (some ⟨S,0,none⟩)) hS ?_;refine tk 13 100 (.pointer (some ⟨S,0,none⟩)) hS ?_;refine tk 14 101 (.pointer (some ⟨S,7,none⟩)) hS ?_;refine tk 15 102 (.string H) hS ?_;refine mw 16 (fun Kc hK=>?_);go_simp;go_at_call 162;refine HCL.out.mono ?_;rintro e x4⟨v4,v',rfl,hf4,hx4,ho4,he4,hb4⟩;have ST:=aa (ae7 HSD.out HFD.out HSs.out HV.out hf4 hx4 ho4 he4 hb4);have hS4:At x4 S _:=ST.out.2.2.1 137 (by decide) (by decide) _ _ _ (show At wr.drew S _ from HSr.out);have dB:x4.cell? ⟨S,0,none⟩=some (.int .i64 (m':Nat))/\x4.cell? ⟨S,7,none⟩=some (.string H):=⟨hS4.cell 0,hS4.cell 7⟩;clear hf4 hx4 ho4 he4 hb4 hS4;refine hK.out _ _ dB (fun hH=>?_);try simp only[Act.put,ag,ai,aj]
    clear hK Kc;refine wpAnyH_done (by kernel_rfl) ?_ _;clear dA dB;go_wp2_with fail
    go_roundw
    case rel=>
     obtain⟨s1,s2,s3,s4⟩:=ST.out;refine⟨q+1,us.set q v',by omega,by go_num,?_,?_,fun ty h1 h2=>((HL.out.kt ty h1 h2).trans (Kt.below ae.drew)).trans (s3 ty h1 h2),HL.out.ex.trans ⟨s4.os,s4.tape,s4.output,s4.size,s4.block⟩⟩
     ·rw[aa4,aee HP.out]
      exact s1
     ·rw[alw t ν m' _ q HP.out]
      exact s2
    case measure=>simp[intOf];omega
   ·obtain rfl:q=(fy (ew T)).length:=by omega
    obtain⟨D,hD⟩:∃D:Int,(H.size:Int)-(te (fy (ew T)):Nat)+1=D:=⟨_,rfl⟩;obtain⟨x,hx⟩:∃x:Nat,(x:Int)=max 0 D:=⟨D.toNat,by omega⟩;have hif:(if(0:Int)<D then D else 0)=(x:Nat):=by rw[hx];split<;>omega
    have hmx:max 0 D=(x:Nat):=hx.symm;have hxl:x<=H.size:=by omega
    have hxi:(x:Int)<=H.size:=by omega
    have HX:=aa hx;clear hx;go_wp2_with fail
    go_region;all_goals(go_wp2_with fail)
    simp only[Exit.jump];go_ret;have E5:Ex [S] wr (wr.setCell ⟨S,7,none⟩ (.string (H.extract x H.size))).drew:=((Ex.refl [S] wr).set S 7 _ (by simp)).drew;have hS5:=HSr.out.set 7 (.string (H.extract x H.size));have k5:∀ty,ty≠24->ty≠3->ty≠137->Kt ty W3 (wr.setCell ⟨S,7,none⟩ (.string (H.extract x H.size))).drew:=fun ty h1 h2 h3=>(HL.out.kt ty h1 h2).trans (Kt.at1 E5 HSr.out (fun e=>h3 e.symm))
    have hPb:∀i,(i=FD\/(∃s∈sps,i=s.nx)\/N0<=i)->base<=i:=fun i h=>by
     rcases h with rfl|⟨s,hs,rfl⟩|h
     ·exact lo2
     ·exact HLo3.out s hs
     ·omega
    have hz3:base<=W3.heap.size:=ba lo4 hn3;have hB5:=(HB3.out.trans (HL.out.ex.below hz3 hPb)).trans (E5.below (ba hz3 HL.out.ex.size) (by intro y hy;rw[cd.1 hy];exact lo1));have hHx:H.extract x H.size=t.extract (b+x) m':=by
     have hs:=HHs.out;have e:H.size=m'-b:=by omega
     rw[e,HHH.out];exact ext_ext t b m' x (by omega)
    have hXX:=HX.out;have hHs:=HHs.out;have hSt:tu (wr.setCell ⟨S,7,none⟩ (.string (H.extract x H.size))).drew S FD base N0 T t F sz limit sps m' r1 _ (H.extract x H.size) (nuQ ν m' (fy (ew T)) (fy (ew T)).length):=
     ⟨⟨aq,cq,asr,csr,hS5,HCQ.out,HN3.out.keep (k5 81 (by decide) (by decide) (by decide)) (k5 100 (by decide) (by decide) (by decide)),HT3.out.keep (k5 140 (by decide) (by decide) (by decide))⟩,hsl,HL.out.sr.ex E5 HSr.out,⟨us,HL.out.fd.ex E5 HSr.out⟩,⟨lo1,lo2,HLo3.out,lo4⟩,ba hn3 (ba HL.out.ex.size E5.size)⟩
    first
    |(refine⟨hB5,.inl ⟨rfl,hmlt,b+x,r1,nuQ ν m' (fy (ew T)) (fy (ew T)).length,?_⟩⟩
      have e1:=HMR.out
      have e2:=HPR.out
      subst e2
      rw[<-e1]
      refine⟨by rw[<-hHx];exact hSt,HF3.out.keep fun i h1 h2=>?_,⟨by omega,by omega,htt⟩,fun k p hp=>?_,⟨w1,w2,HW3.out,w4,w5⟩⟩
      ·have hlt3:i<W3.heap.size:=by omega
       rw[E5.block i (az hlt3 HL.out.ex.size) (by simp;omega)]
       refine HL.out.ex.block i hlt3 fun h=>?_
       rcases h with h|⟨s,hs,h⟩|h
       ·omega
       ·have:=HW3.out s hs
        omega
       ·omega
      ·have h1:=HNu.out k p hp
       have h2:=aba HRT.out hp
       rw[afu (cy.1 hp).1 hp (by omega)]
       omega)
    |(refine⟨hB5,.inr ⟨rfl,r1,H.extract x H.size,nuQ ν m' (fy (ew T)) (fy (ew T)).length,hSt,fun k p hp=>?_⟩⟩
      have h1:=HNu.out k p hp
      exact afu (cy.1 hp).1 hp (by omega))
end
section
set_option maxRecDepth 100000
set_option maxHeartbeats 4000000
open Go.RowKit Go.Shelf
def xr(w:World)(l:List Int)(vs:List Value):Prop:=∃ad cap,vs=[.slice ad l.length cap]/\l.length<=cap/\ft w 3 ad l.length (ga l)
theorem xr.len{w:World}{t:List Int}{vs:List Value}(h:xr w t vs):vs.length=1:=by obtain⟨ad,cap,rfl,_⟩:=h;rfl
theorem xr.keep{w w':World}{t:List Int}{vs:List Value}(h:xr w t vs)(k:Kt 3 w w'):xr w' t vs:=by
 obtain⟨ad,cap,h1,h2,h3⟩:=h;exact⟨ad,cap,h1,h2,h3.keep k⟩
theorem ip{w w':World}{l:List (List Int)}{xs:List Value}(h:f9 (xr w) l xs)(k:Kt 3 w w'):f9 (xr w') l xs:=h.mono fun _ _ h=>h.keep k
theorem f9.snoc_inv{α:Type}{V:α->List Value->Prop}{a:α}{l:List α}{xs:List Value}(h:f9 V (l++[a]) xs):∃ys vs,xs=ys++vs/\f9 V l ys/\V a vs:=by
 induction l generalizing xs with
 |nil=>
  obtain⟨vs,ys,rfl,h1,h2⟩:=h.cons_inv;cases h2;exact⟨[],vs,by simp,.nil,h1⟩
 |cons b l ih=>
  obtain⟨us,ys,rfl,h1,h2⟩:=h.cons_inv;obtain⟨zs,vs,rfl,h3,h4⟩:=ih h2;exact⟨us++zs,vs,by simp,.cons h1 h3,h4⟩
structure mx(w:World)(C base:Nat)(F st:List (List Int))(n:Int):Prop where
 at_:∃af cf ah ch vf vh,At w C (af2 (.slice af F.length cf) (.slice ah st.length ch) n)/\ft w 24 af F.length vf/\f9 (xr w) F vf/\(F.length<=cf/\∀a,af=some a->a.block<base)/\w.ownsRow base 24 1 (.slice ah st.length ch) st.length vh/\f9 (xr w) st vh
 lt:C<base
 le:base<=w.heap.size
 lf:F.length<=1000
 ls:st.length<=1000
def lm(C base:Nat)(F st:List (List Int))(n:Int)(l:List Int)(w:World)(e:Ending)(w':World):Prop:=
 ∃ad cap,e=.returned (.slice ad l.length cap)/\l.length<=cap/\ft w' 3 ad l.length (ga l)/\mx w' C base F st n/\Ex [C] w w'
theorem p8(C base:Nat)(F st:List (List Int))(l:List Int)(n:Int)(w:World)(h:mx w C base F (st++[l]) n):
 Calls prog 121 #[.pointer (some ⟨C,0,none⟩)] w (lm C base F st n l w):=by
 obtain⟨⟨af,cf,ah,ch,vf,vh,hA,hF,hFr,hcf,hO,hOr⟩,hlt,hle,hlf,hls⟩:=h;obtain⟨ys,us,rfl,hO1,hO2⟩:=hOr.snoc_inv;have hyl:=hO1.len (fun _ _ h=>h.len);rw[Nat.mul_one]at hyl;obtain⟨ad,cap,rfl,hlc,hR⟩:=hO2;have e:(st++[l]).length=st.length+1:=by simp
 rw[e]at hA hO hls;obtain⟨g,rfl,hgb⟩:∃g,ah=some ⟨g,0,none⟩/\base<=g:=by
  rcases hO.2 with⟨_,h0⟩|⟨g,c,cur,h,hg,_⟩
  ·omega
  ·cases h;exact⟨g,rfl,hg⟩
 obtain⟨b,o,hbo,hbl,hc⟩:=(ft.own hO).cell (by omega);cases hbo;have d0:=hc st.length (.slice ad l.length cap) (by rw[ef (by omega),hyl,Nat.sub_self];rfl);rw[dg]at d0;have c1:=hA.cell 1;have fz:=hA.free 1;have hl:=hA.lt;have hE:Ex [C] w (w.setCell ⟨C,1,none⟩ (.slice (some ⟨g,0,none⟩) st.length ch)):=(Ex.refl _ _).set C 1 _ (by simp);have hA2:=hA.set 1 (.slice (some ⟨g,0,none⟩) st.length ch);have hJ:mx (w.setCell ⟨C,1,none⟩ (.slice (some ⟨g,0,none⟩) st.length ch)) C base F st n:=
  ⟨⟨af,cf,some ⟨g,0,none⟩,ch,vf,ys,by simpa using hA2,hF.keep (Kt.set hA 1 _),ip hFr (Kt.set hA 1 _),hcf,jl (ownsRow_pop (by rw[Nat.mul_one];exact hyl) hO) hE hlt,ip hO1 (Kt.set hA 1 _)⟩,hlt,ba hle hE.size,hlf,by omega⟩
 have HJ:=aa hJ;have HE:=aa hE;have HR:=aa (hR.keep (Kt.set hA 1 (.slice (some ⟨g,0,none⟩) st.length ch)));have hni:(st.length:Int)<=1000:=by omega
 have hn0:(0:Int)<=st.length:=by omega
 have hcap:st.length+1<=ch:=o8 hO;have Hlc:=aa hlc;simp only[ak,am,au]at c1;clear hA hF hFr hcf hO hOr hO1 hE hA2 hJ hR hc hgb e hlc;generalize st.length=N at *;go_enter func121,ntmps121;go_wp2_with fail
 go_ret;exact⟨ad,cap,rfl,Hlc.out,HR.out,HJ.out,HE.out⟩
end
section
set_option maxRecDepth 100000
set_option maxHeartbeats 4000000
open Go.RowKit Go.Shelf
theorem mx.below{w w':World}{C base:Nat}{F st:List (List Int)}{n:Int}(h:mx w C base F st n)(hb:Below w.heap.size w w'):mx w' C base F st n:=by
 obtain⟨⟨af,cf,ah,ch,vf,vh,hA,hF,hFr,hcf,hO,hOr⟩,hlt,hle,hlf,hls⟩:=h;exact⟨⟨af,cf,ah,ch,vf,vh,hA.below hb (az hlt hle),hF.keep (.below hb),ip hFr (.below hb),hcf,fe hO hb,ip hOr (.below hb)⟩,hlt,ba hle hb.size,hlf,hls⟩
theorem ft.pre{w:World}{ty:TypeId}{ad:Option Addr}{n m:Nat}{xs ys:List Value}(h:ft w ty ad n (xs++ys))(hm:m<=n):ft w ty ad m xs:=by
 rcases h with h|⟨b,o,cur,fz,ha,hh,hx⟩
 ·exact .inl (by omega)
 ·exact .inr ⟨b,o,cur,fz,ha,hh,fun j u hj=>hx j u (by
   have hlt:=(cy.1 hj).1
   rw[ek hlt]
   exact hj)⟩
theorem ane(x:QN)(pa:Option Addr)(pc:Nat)(C base:Nat)(F st:List (List Int))(l:List Int)(n:Int)(w:World)(h0:mx w C base (F++[l]) st n):
 Calls prog 115 #[.pointer (some ⟨C,0,none⟩),vw x pa pc] w (lm C base F st n l w):=by
 have hb0:=(aw w.heap.size w).alloc ac (fw x.kind x.num (.slice pa x.els.length pc) x.k);have h:mx (w.alloc (fw x.kind x.num (.slice pa x.els.length pc) x.k)) C base (F++[l]) st n:=h0.below hb0;have HE0:=aa (Ex.of (S:=[C]) hb0);clear h0 hb0;generalize hW:w.alloc (fw x.kind x.num (.slice pa x.els.length pc) x.k)=W at *;have HW:=aa hW;clear hW;obtain⟨⟨af,cf,ah,ch,vf,vh,hA,hF,hFr,hcf,hO,hOr⟩,hlt,hle,hlf,hls⟩:=h;obtain⟨ys,us,rfl,hO1,hO2⟩:=hFr.snoc_inv;have hyl:=hO1.len (fun _ _ h=>h.len);rw[Nat.mul_one]at hyl;obtain⟨ad,cap,rfl,hlc,hR⟩:=hO2;have e:(F++[l]).length=F.length+1:=by simp
 rw[e]at hA hF hlf hcf;obtain⟨g,o,rfl,hbl,hc⟩:=hF.cell (by omega);have d0:=hc F.length (.slice ad l.length cap) (by rw[ef (by omega),hyl,Nat.sub_self];rfl);have c1:=hA.cell 0;have fz:=hA.free 0;have hl:=hA.lt;have hE:Ex [C] W (W.setCell ⟨C,0,none⟩ (.slice (some ⟨g,o,none⟩) F.length cf)):=(Ex.refl _ _).set C 0 _ (by simp);have hA2:=hA.set 0 (.slice (some ⟨g,o,none⟩) F.length cf);have hJ:mx (W.setCell ⟨C,0,none⟩ (.slice (some ⟨g,o,none⟩) F.length cf)) C base F st n:=
  ⟨⟨some ⟨g,o,none⟩,cf,ah,ch,ys,vh,by simpa using hA2,(hF.pre (dt _)).keep (Kt.set hA 0 _),ip hO1 (Kt.set hA 0 _),⟨by have:=hcf.1;omega,hcf.2⟩,jl hO hE hlt,ip hOr (Kt.set hA 0 _)⟩,hlt,ba hle hE.size,by omega,hls⟩
 have HJ:=aa hJ;have HE:Hid (Ex [C] w (W.setCell ⟨C,0,none⟩ (.slice (some ⟨g,o,none⟩) F.length cf))):=aa ((HE0.out.trans hE).mono (by intro x hx;left;simpa using hx));have HR:=aa (hR.keep (Kt.set hA 0 (.slice (some ⟨g,o,none⟩) F.length cf)));have hni:(F.length:Int)<=1000:=by omega
 have hn0:(0:Int)<=F.length:=by omega
 have hcap:F.length+1<=cf:=hcf.1;have Hlc:=aa hlc;simp only[ak,am]at c1;clear hA hF hFr hcf hO hOr hO1 hE hA2 hJ hR hc e hlc HE0;generalize F.length=N at *;rw[<-HW.out]at *;go_enter func115,ntmps115;go_wp2_with fail
 go_ret;exact⟨ad,cap,rfl,Hlc.out,HR.out,HJ.out,HE.out⟩
end
section
set_option maxRecDepth 100000
set_option maxHeartbeats 4000000
open Go.RowKit Go.Shelf
theorem mx.num{w:World}{C base:Nat}{F st:List (List Int)}{n:Int}(h:mx w C base F st n):w.cell? ⟨C,2,none⟩=some (.int .i64 n)/\C<w.heap.size:=by
 obtain⟨⟨af,cf,ah,ch,vf,vh,hA,-⟩,-⟩:=h;exact⟨by have:=hA.cell 2;simpa using this,hA.lt⟩
theorem lm.of{C base:Nat}{F st:List (List Int)}{n:Int}{l:List Int}{w w1 w2:World}{v:Value}(h:mx w1 C base F st n)(he:Ex [C] w w1)(ho:w2.ownsRow w1.heap.size 3 1 v l.length (ga l))(hb:Below w1.heap.size w1 w2):lm C base F st n l w (.returned v) w2:=by
 obtain⟨ad,cap,rfl⟩:=ey ho;exact⟨ad,cap,rfl,o8 ho,ft.own ho,h.below hb,he.then hb⟩
theorem mx.kt{w w':World}{C base:Nat}{F st:List (List Int)}{n:Int}(h:mx w C base F st n)(he:Ex [C] w w')(ty:TypeId)(hne:183≠ty):Kt ty w w':=by
 obtain⟨⟨af,cf,ah,ch,vf,vh,hA,-⟩,-⟩:=h;exact .at1 he hA hne
theorem arf(x:QN)(pa:Option Addr)(pc:Nat)(C base:Nat)(F st:List (List Int))(a b:List Int)(ha:jj a)(hb:jj b)(hla:(a.length:Int)<=100000)(hlb:(b.length:Int)<=100000)(n:Int)(w:World)(h:mx w C base F (st++[b]++[a]) n):
 Calls prog 116 #[.pointer (some ⟨C,0,none⟩),vw x pa pc] w (lm C base F st n (andL a b) w):=by
 have hb0:=(aw w.heap.size w).alloc ac (fw x.kind x.num (.slice pa x.els.length pc) x.k);have q1:=aa (p8 C base F (st++[b]) a n _ (h.below hb0));have q2:=aa fun w' h=>p8 C base F st b n w' h
 have HE0:=aa (Ex.of (S:=[C]) hb0);have q3:=aa fun ad ca ad' cb(w':World)hA hB=>ahg a b ha hb hla hlb ad ca ad' cb w' hA hB
 clear h hb0 ha hb;go_enter func116,ntmps116;go_wp2_with fail
 go_at_call 121;refine q1.out.mono ?_;rintro e w1⟨ad1,c1,rfl,hc1,hr1,hj1,he1⟩;have E1:Hid (Ex [C] w w1):=aa ((HE0.out.trans he1).mono (by intro x hx;left;simpa using hx));have J1:=aa hj1;have R1:=aa hr1;have HC1:=aa hc1;clear hc1 hr1 hj1 he1;go_wp2_with fail
 go_at_call 121;refine(q2.out _ J1.out).mono ?_;rintro e w2⟨ad2,c2,rfl,hc2,hr2,hj2,he2⟩;have E2:Hid (Ex [C] w w2):=aa ((E1.out.trans he2).mono (by intro x hx;left;simpa using hx));have J2:=aa hj2;have R2:=aa hr2;have HC2:=aa hc2;have R12:=aa (R1.out.keep (J1.out.kt he2 3 (by decide)));clear hc2 hr2 hj2 he2;go_wp2_with fail
 go_at_call 167;refine(q3.out ad1 c1 ad2 c2 w2 R12.out.rowI R2.out.rowI).mono ?_;rintro e w3⟨v,rfl,ho,hb⟩;have HO:=aa ho;have HB:=aa hb;clear ho hb;go_wp2_with fail
 go_ret;exact lm.of J2.out E2.out HO.out HB.out
theorem jor_any(x:QN)(pa:Option Addr)(pc:Nat)(C base:Nat)(F st:List (List Int))(a b:List Int)(ha:jj a)(hb:jj b)(hla:(a.length:Int)<=100000)(hlb:(b.length:Int)<=100000)(n:Int)(w:World)(h:mx w C base F (st++[b]++[a]) n):
 Calls prog 117 #[.pointer (some ⟨C,0,none⟩),vw x pa pc] w (lm C base F st n (qy a b) w):=by
 have hb0:=(aw w.heap.size w).alloc ac (fw x.kind x.num (.slice pa x.els.length pc) x.k);have q1:=aa (p8 C base F (st++[b]) a n _ (h.below hb0));have q2:=aa fun w' h=>p8 C base F st b n w' h
 have HE0:=aa (Ex.of (S:=[C]) hb0);have q3:=aa fun ad ca ad' cb(w':World)(hc1:a.length<=ca)(hc2:b.length<=cb)hA hB=>alr a b ha hb hla hlb ad ca ad' cb hc1 hc2 w' hA hB
 clear h hb0 ha hb;go_enter func117,ntmps117;go_wp2_with fail
 go_at_call 121;refine q1.out.mono ?_;rintro e w1⟨ad1,c1,rfl,hc1,hr1,hj1,he1⟩;have E1:Hid (Ex [C] w w1):=aa ((HE0.out.trans he1).mono (by intro x hx;left;simpa using hx));have J1:=aa hj1;have R1:=aa hr1;have HC1:=aa hc1;clear hc1 hr1 hj1 he1;go_wp2_with fail
 go_at_call 121;refine(q2.out _ J1.out).mono ?_;rintro e w2⟨ad2,c2,rfl,hc2,hr2,hj2,he2⟩;have E2:Hid (Ex [C] w w2):=aa ((E1.out.trans he2).mono (by intro x hx;left;simpa using hx));have J2:=aa hj2;have R2:=aa hr2;have HC2:=aa hc2;have R12:=aa (R1.out.keep (J1.out.kt he2 3 (by decide)));clear hc2 hr2 hj2 he2;go_wp2_with fail
 go_at_call 168;refine(q3.out ad1 c1 ad2 c2 w2 HC1.out HC2.out R12.out.rowI R2.out.rowI).mono ?_;rintro e w3⟨v,rfl,ho,hb⟩;have HO:=aa ho;have HB:=aa hb;clear ho hb;go_wp2_with fail
 go_ret;exact lm.of J2.out E2.out HO.out HB.out
theorem ard(x:QN)(pa:Option Addr)(pc:Nat)(C base:Nat)(F st:List (List Int))(a:List Int)(ha:jj a)(hla:(a.length:Int)<=100000)(n:Nat)(hn:n<=1000)(w:World)(h:mx w C base F (st++[a]) n):
 Calls prog 118 #[.pointer (some ⟨C,0,none⟩),vw x pa pc] w (lm C base F st n (zq a n) w):=by
 have hb0:=(aw w.heap.size w).alloc ac (fw x.kind x.num (.slice pa x.els.length pc) x.k);have hJ0:=h.below hb0;have J0:=aa hJ0;have q1:=aa fun w' h=>p8 C base F st a (n:Nat) w' h
 have HE0:=aa (Ex.of (S:=[C]) hb0);have q3:=aa fun ad ca(w':World)hA=>ahf a ha hla n hn ad ca w' hA
 obtain⟨k2,kl⟩:=hJ0.num;clear h hb0 ha hJ0;go_enter func118,ntmps118;go_wp2_with fail
 generalize w.alloc (fw x.kind x.num (.slice pa x.els.length pc) x.k)=W0 at *;have JD:Hid (mx W0.drew C base F (st++[a]) (n:Nat)):=aa (J0.out.below ae.drew);have ED:Hid (Ex [C] w W0.drew):=aa HE0.out.drew;go_region_with(first|(go_at_call 121;(with_reducible refine(q1.out _ JD.out).mono ?_);rintro e w1⟨ad1,c1,rfl,hc1,hr1,hj1,he1⟩;have E1:Hid (Ex [C] w w1):=aa ((ED.out.trans he1).mono (by intro x hx;left;simpa using hx));have J1:=aa hj1;have R1:=aa hr1;obtain⟨m2,ml⟩:=hj1.num;clear hc1 hr1 hj1 he1)|(go_at_call 169;(with_reducible refine(q3.out _ _ _ ?_).mono ?_);exact R1.out.rowI;rintro e w3⟨v,rfl,ho,hb⟩;have HO:=aa ho;have HB:=aa hb;clear ho hb))
 all_goals(go_wp2_with fail)
 all_goals go_ret
 all_goals exact lm.of J1.out E1.out HO.out HB.out
theorem aiq(x:QN)(hx:x.num<=1000000)(pa:Option Addr)(pc:Nat)(C base:Nat)(F st:List (List Int))(a:List Int)(ha:jj a)(hla:(a.length:Int)<=100000)(hlx:∀y∈a,y<=100000)(n:Int)(w:World)(h:mx w C base F (st++[a]) n):
 Calls prog 119 #[.pointer (some ⟨C,0,none⟩),vw x pa pc] w (lm C base F st n (shL a x.num) w):=by
 have hb0:=(aw w.heap.size w).alloc ac (fw x.kind x.num (.slice pa x.els.length pc) x.k);have J0:=aa (h.below hb0);have HN0:=aa (At.new w (fw x.kind x.num (.slice pa x.els.length pc) x.k));have k1:=HN0.out.cell 1;have nl:=HN0.out.lt;simp only[ak,am,au]at k1;have q1:=aa fun w' h=>p8 C base F st a n w' h
 have HE0:=aa (Ex.of (S:=[C]) hb0);have HNE:=aa (show w.heap.size≠C by have:=h.lt;have:=h.le;omega);have q3:=aa fun ad ca(w':World)hA=>ac7 a ha hla hlx x.num hx ad ca w' hA
 clear h hb0 ha hlx;go_enter func119,ntmps119;go_wp2_with fail
 generalize w.alloc (fw x.kind x.num (.slice pa x.els.length pc) x.k)=W0 at *;have JD:Hid (mx W0.drew C base F (st++[a]) n):=aa (J0.out.below ae.drew);have ED:Hid (Ex [C] w W0.drew):=aa HE0.out.drew;have ND:Hid (At W0.drew w.heap.size (fw x.kind x.num (.slice pa x.els.length pc) x.k)):=aa HN0.out;go_region_with(first|(go_at_call 121;(with_reducible refine(q1.out _ JD.out).mono ?_);rintro e w1⟨ad1,c1,rfl,hc1,hr1,hj1,he1⟩;have E1:Hid (Ex [C] w w1):=aa ((ED.out.trans he1).mono (by intro x hx;left;simpa using hx));have J1:=aa hj1;have R1:=aa hr1;have hNx:=ND.out.ex he1 (by simpa using HNE.out);have m1:=hNx.cell 1;have ml:=hNx.lt;simp only[ak,am,au]at m1;clear hNx hc1 hr1 hj1 he1)|(go_at_call 170;(with_reducible refine(q3.out _ _ _ ?_).mono ?_);exact R1.out.rowI;rintro e w3⟨v,rfl,ho,hb⟩;have HO:=aa ho;have HB:=aa hb;clear ho hb))
 all_goals(go_wp2_with fail)
 all_goals go_ret
 all_goals exact lm.of J1.out E1.out HO.out HB.out
end
section
set_option maxRecDepth 100000
set_option maxHeartbeats 4000000
open Go.RowKit Go.Shelf
def qp(w:World)(ad:Option Addr)(ls:List (List Int)):Prop:=∃vs,ft w 24 ad ls.length vs/\f9 (xr w) ls vs
theorem qp.keep{w w':World}{ad:Option Addr}{ns:List (List Int)}(h:qp w ad ns)(k:Kt 24 w w')(k':Kt 3 w w'):qp w' ad ns:=by
 obtain⟨vs,h1,h2⟩:=h;exact⟨vs,h1.keep k,ip h2 k'⟩
theorem qp.below{w w':World}{ad:Option Addr}{ns:List (List Int)}(h:qp w ad ns)(hb:Below w.heap.size w w'):qp w' ad ns:=h.keep (.below hb) (.below hb)
theorem qp.at{w:World}{ad:Option Addr}{ns:List (List Int)}(h:qp w ad ns){j:Nat}{t:List Int}(hj:ns[j]?=some t):∃b o pa pc,ad=some ⟨b,o,none⟩/\b<w.heap.size/\w.cell? ⟨b,o+j,none⟩=some (.slice pa t.length pc)/\ft w 3 pa t.length (ga t):=by
 obtain⟨vs,h1,h2⟩:=h;have hlt:j<ns.length:=by
  rcases Nat.lt_or_ge j ns.length with h|h
  ·exact h
  ·rw[eb h]at hj;cases hj
 obtain⟨b,o,rfl,hb,hc⟩:=h1.cell (by omega);obtain⟨us,hu,hx⟩:=h2.at (fun _ _ h=>h.len) j t hj;obtain⟨pa,pc,rfl,hl,hr⟩:=hu;refine⟨b,o,pa,pc,rfl,hb,?_,hr⟩;have:=hc (j*1+0) _ (hx 0 (by omega));simpa using this
theorem anz(l:List Int)(hr:jj l)(hl:(l.length:Int)<=100000)(pa:Option Addr)(pc:Nat)(w:World)(h:ft w 3 pa l.length (ga l)):
 Calls prog 111 #[.slice pa l.length pc] w fun e w'=>e=.returned (.bool false)/\Below w.heap.size w w':=by
 have Q:=aa (ka l hr hl pa pc w h.rowI);clear h hr;go_enter func111,ntmps111;go_wp2_with(go_at_call 112;(with_reducible refine Q.out.mono ?_);rintro e w1⟨rfl,rfl⟩)
 go_ret;exact⟨rfl,ae⟩
theorem ais(ls:List (List Int))(hl:ls.length<=2000)(hr:∀l∈ls,jj l/\(l.length:Int)<=100000)(ad:Option Addr)(cap:Nat)(w:World)(hN:qp w ad ls):
 Calls prog 166 #[.slice ad ls.length cap,.func (.func 111) #[] #[]] w fun e w'=>e=.returned (.int .i64 (-1))/\Below w.heap.size w w':=by
 have HF:=aa hr;have HN:=aa hN;have hnI:(ls.length:Int)<=2000:=by omega
 clear hr hN;go_enter func166,ntmps166;go_wp2_with fail
 go_loopw[8] (fun i wr=>∃q:Nat,q<=ls.length/\i=.int .i64 q/\Below w.heap.size w wr) (fun i _=>ls.length-(intOf i).toNat)
 case atStart=>exact⟨0,by omega,rfl,ae⟩
 case round=>
  obtain⟨q,hq,rfl,hb⟩:=hrel;have Hb:=aa hb;clear hb;by_cases hlt:q<ls.length
  ·have hlti:(q:Int)<ls.length:=by omega
   have hq0:(0:Int)<=q:=by omega
   obtain⟨x,hx⟩:∃x,ls[q]?=some x:=⟨_,bs hlt⟩;obtain⟨b,o,pa,pc,rfl,hbm,e0,hrw⟩:=(HN.out.below Hb.out).at hx;have hcall:=aa (anz x (HF.out x (dm hx)).1 (HF.out x (dm hx)).2 pa pc wr hrw);clear hx hrw;go_wp2_with(go_at_call 111;refine hcall.out.mono ?_;rintro e w1⟨rfl,hb1⟩)
   exact⟨⟨q+1,by omega,by go_num,Hb.out.trans (hb1.mono Hb.out.size)⟩,by simp[intOf];omega⟩
  ·obtain rfl:q=ls.length:=by omega
   go_wp2_with fail
   go_ret;exact⟨rfl,Hb.out⟩
theorem aiy(ls:List (List Int))(hl:ls.length<=2000)(hr:∀l∈ls,jj l/\(l.length:Int)<=100000)(ad:Option Addr)(cap:Nat)(w:World)(hN:qp w ad ls):
 Calls prog 114 #[.slice ad ls.length cap,.func (.func 111) #[] #[]] w fun e w'=>e=.returned (.bool false)/\Below w.heap.size w w':=by
 have Q:=aa (ais ls hl hr ad cap w hN);clear hr hN;go_enter func114,ntmps114;go_wp2_with(go_at_call 166;(with_reducible refine Q.out.mono ?_);rintro e w1⟨rfl,hb1⟩;have B1:=aa hb1;clear hb1)
 go_ret;exact⟨rfl,B1.out⟩
theorem jop_any(f:List (Nat->Bool)->Nat->List Int)(n:Nat)(hn:n<=1000)(x:QN)(l:List QN)(hx1:x.num<=1000000)(hxk:1<=x.kind/\x.kind<=5)(hok:ar x.kind<=(rg l).length)
 (hr:∀T∈rg l,jj (qh f n T)/\∀y∈qh f n T,y<(n:Int)) (pa:Option Addr) (pc:Nat) (C base:Nat) (F:List (List (Nat->Bool)×Nat)) (w:World)
 (h:mx w C base ((F++(if x.kind=1 then[(x.els,x.k)]else[])).map fun p=>f p.1 p.2) ((rg l).map (qh f n)).reverse (n:Nat)):
 ∃T r,rg (x::l)=T::r/\∀k,(k:Nat)=114+x.kind->Calls prog k #[.pointer (some ⟨C,0,none⟩),vw x pa pc] w (lm C base (F.map fun p=>f p.1 p.2) (r.map (qh f n)).reverse (n:Nat) (qh f n T) w):=by
 have hlen:∀T∈rg l,((qh f n T).length:Int)<=100000:=fun T hT=>by
  have:=kr (hr T hT).1 (hr T hT).2;omega
 have hk:x.kind=1\/x.kind=2\/x.kind=3\/x.kind=4\/x.kind=5:=by omega
 rcases hk with hk|hk|hk|hk|hk
 ·refine⟨.find x.els x.k,rg l,by simp[rg,hk],fun k e=>?_⟩
  rw[e,hk];rw[if_pos hk,ep]at h;exact ane x pa pc C base _ _ _ _ w h
 ·rw[if_neg (by omega),dh]at h
  rw[hk]at hok;obtain⟨a,b,r,hp⟩:∃a b r,rg l=a::b::r:=by
   cases hp:rg l with
   |nil=>rw[hp]at hok;exact absurd hok (by decide)
   |cons a r=>
    cases r with
    |nil=>rw[hp]at hok;exact absurd hok (by simp[ar])
    |cons b r=>exact⟨a,b,r,rfl⟩
  rw[hp]at h hr hlen;refine⟨.and a b,r,by simp[rg,hk,hp],fun k e=>?_⟩;rw[e,hk];simp only[List.map_cons,List.reverse_cons]at h;exact arf x pa pc C base _ _ _ _ (hr a (by simp)).1 (hr b (by simp)).1 (hlen a (by simp)) (hlen b (by simp)) _ w h
 ·rw[if_neg (by omega),dh]at h
  rw[hk]at hok;obtain⟨a,b,r,hp⟩:∃a b r,rg l=a::b::r:=by
   cases hp:rg l with
   |nil=>rw[hp]at hok;exact absurd hok (by decide)
   |cons a r=>
    cases r with
    |nil=>rw[hp]at hok;exact absurd hok (by simp[ar])
    |cons b r=>exact⟨a,b,r,rfl⟩
  rw[hp]at h hr hlen;refine⟨.or a b,r,by simp[rg,hk,hp],fun k e=>?_⟩;rw[e,hk];simp only[List.map_cons,List.reverse_cons]at h;exact jor_any x pa pc C base _ _ _ _ (hr a (by simp)).1 (hr b (by simp)).1 (hlen a (by simp)) (hlen b (by simp)) _ w h
 ·rw[if_neg (by omega),dh]at h
  rw[hk]at hok;obtain⟨a,r,hp⟩:∃a r,rg l=a::r:=by
   cases hp:rg l with
   |nil=>rw[hp]at hok;exact absurd hok (by decide)
   |cons a r=>exact⟨a,r,rfl⟩
  rw[hp]at h hr hlen;refine⟨.not a,r,by simp[rg,hk,hp],fun k e=>?_⟩;rw[e,hk];simp only[List.map_cons,List.reverse_cons]at h;have e2:qh f n (.not a)=zq (qh f n a) n:=by rw[qh,zq,Nat.min_eq_left (by omega)]
  rw[e2];exact ard x pa pc C base _ _ _ (hr a (by simp)).1 (hlen a (by simp)) n hn w h
 ·rw[if_neg (by omega),dh]at h
  rw[hk]at hok;obtain⟨a,r,hp⟩:∃a r,rg l=a::r:=by
   cases hp:rg l with
   |nil=>rw[hp]at hok;exact absurd hok (by decide)
   |cons a r=>exact⟨a,r,rfl⟩
  rw[hp]at h hr hlen;refine⟨.shift x.num a,r,by simp[rg,hk,hp],fun k e=>?_⟩;rw[e,hk];simp only[List.map_cons,List.reverse_cons]at h;exact aiq x hx1 pa pc C base _ _ _ (hr a (by simp)).1 (hlen a (by simp)) (fun y hy=>by have:=(hr a (by simp)).2 y hy;omega) _ w h
end
section
set_option maxRecDepth 100000
set_option maxHeartbeats 8000000
open Go.RowKit Go.Shelf Go.Maps
theorem ft.rd{w:World}{ty:TypeId}{ad:Option Addr}{n:Nat}{xs:List Value}(h:ft w ty ad n xs):n=0\/∃b o,ad=some ⟨b,o,none⟩/\b<w.heap.size/\∀(j:Nat)u,xs[j]?=some u->w.cell? ⟨b,o+j,none⟩=some u:=by
 by_cases h0:n=0
 ·exact .inl h0
 ·exact .inr (h.cell (by omega))
theorem apl{w:World}(a:List Int)(vs:List Value)(h:xr w a vs):∀u∈vs,u.oneCell'=true:=by
 obtain⟨ad,cap,rfl,_⟩:=h;simp[Value.oneCell']
theorem ft.low{w w':World}{ty:TypeId}{ad:Option Addr}{n m:Nat}{xs:List Value}(h:ft w ty ad n xs)(hlo:∀a,ad=some a->a.block<m)(hb:Below m w w'):ft w' ty ad n xs:=by
 rcases h with h|⟨b,o,cur,fz,ha,hh,hx⟩
 ·exact .inl h
 ·exact .inr ⟨b,o,cur,fz,ha,(hb.block b (hlo _ ha)).trans hh,hx⟩
theorem mx.push{w8 w9:World}{C base:Nat}{F st:List (List Int)}{n:Int}{af ah:Option Addr}{cf ch:Nat}{vf vh:List Value}(hA:At w8 C (af2 (.slice af F.length cf) (.slice ah st.length ch) n))(hF:ft w8 24 af F.length vf)(hFr:f9 (xr w8) F vf)
 (hcf:F.length<=cf/\∀a,af=some a->a.block<base) (hOr:f9 (xr w8) st vh) (hlt:C<base) (hle:base<=w8.heap.size) (hlf:F.length<=1000) (hls:st.length+1<=1000) {l:List Int} {ad:Option Addr} {c:Nat} (hc:l.length<=c) (hR:ft w8 3 ad l.length (ga l))
 {a9:Option Addr} {c9:Nat} (ho:w9.ownsRow base 24 1 (.slice a9 (st.length+1) c9) (st.length+1) (vh++[.slice ad l.length c])) (hb:Below base w8 w9) (hk:∀ty,24≠ty->Kt ty w8 w9):
 mx (w9.setCell ⟨C,1,none⟩ (.slice a9 (st.length+1) c9)) C base F (st++[l]) n:=by
 have hA9:=hA.below hb hlt;have k3:=(hk 3 (by decide)).trans (Kt.set hA9 1 (.slice a9 (st.length+1) c9));have hE:Ex [C] w9 (w9.setCell ⟨C,1,none⟩ (.slice a9 (st.length+1) c9)):=(Ex.refl _ _).set C 1 _ (by simp);have e:(st++[l]).length=st.length+1:=by simp
 refine⟨⟨af,cf,a9,c9,vf,vh++[.slice ad l.length c],?_,(hF.low hcf.2 hb).keep (Kt.set hA9 1 _),ip hFr k3,hcf,?_,(ip hOr k3).append (f9.one ⟨ad,c,rfl,hc,hR.keep k3⟩)⟩,hlt,ba (ba hle hb.size) hE.size,hlf,by rw[e];exact hls⟩
 ·have:=hA9.set 1 (.slice a9 (st.length+1) c9)
  rw[e];simpa using this
 ·rw[e]
  exact jl ho hE hlt
def ast(l:List Int)(w:World)(e:Ending)(w':World):Prop:=
 ∃v,e=.returned (.tuple #[v,.bool true])/\w'.ownsRow w.heap.size 3 1 v l.length (ga l)/\Below w.heap.size w w'
def jfn(y:Int):Value:=if y=5 then .func (.func 119) #[] #[]else if y=4 then .func (.func 118) #[] #[]else if y=3 then .func (.func 117) #[] #[]else if y=2 then .func (.func 116) #[] #[]else if y=1 then .func (.func 115) #[] #[]else .nilFunc
theorem arc(f:List (Nat->Bool)->Nat->List Int)(T:QT)(n:Nat)(hn:n<=1000)(hrT:ir T=true)(hE:∀x∈ew T,x.els.length<=2000)
 (hf:∀e k,(e,k)∈fy (ew T)->jj (f e k)/\∀x∈f e k,x<(n:Int)) (adn adr:Option Addr) (cn cr:Nat) (hcn:(ew T).length<=cn) (w:World) (hN:gd w adn (ew T)) (hR:qp w adr ((fy (ew T)).map fun p=>f p.1 p.2)):
 Calls prog 61 #[.slice adn (ew T).length cn,.slice adr (fy (ew T)).length cr,.int .i64 (n:Nat)] w (ast (qh f n T) w):=by
 have hlen:=m9 hrT;have hll:=se (ew T);have hfl:∀l∈(fy (ew T)).map (fun p=>f p.1 p.2),jj l/\(l.length:Int)<=100000:=fun l hl=>by
  obtain⟨⟨e,k⟩,hm,rfl⟩:=List.mem_map.1 hl;have h:=hf e k hm;have:(f e k).length<=n:=kr h.1 h.2;exact⟨h.1,show((f e k).length:Int)<=100000 by omega⟩
 have h1:Hid (Calls prog 113 #[.slice adn (ew T).length cn] w fun e w'=>e=.returned (.bool true)/\Below w.heap.size w w'):=aa (by have:=aav T (by omega) hE adn cn hcn w hN;rwa[hrT]at this);have h2:=aa fun w'(hb:Below w.heap.size w w')=>vy (ew T) (by omega) adn cn w' (hN.below hb)
 have hml:((fy (ew T)).map fun p=>f p.1 p.2).length=(fy (ew T)).length:=List.length_map _;have h3:=aa fun w'(hb:Below w.heap.size w w')=>aiy ((fy (ew T)).map fun p=>f p.1 p.2) (by omega) hfl adr cr w' (hR.below hb)
 obtain⟨vr,hT24,hV⟩:=hR;have hvl:=hV.len (fun _ _ h=>h.len);have VV:=aa fun w'(hb:Below w.heap.size w w')=>ip hV (Kt.below hb)
 have h4:=aa fun w'(hb:Below w.heap.size w w')=>aen adr ((fy (ew T)).map fun p=>f p.1 p.2).length cr vr (by omega) hvl (jy hV apl) w' ((hT24.keep (Kt.below hb)).rd)
 have hmm:=@run_makeMap prog;have HPR:=aa (aqe T f n hf);have HNM:=aa (ahq hrT);have HOK:=aa (okp_all T);have HPT:=aa (pil_all T);have HKD:=aa (po T);have HN:=aa hN;clear hf hfl hE hrT hN hT24 hV hvl;rw[hml]at h3 h4;clear hml;have hLi:((ew T).length:Int)<=64:=by omega
 have hLp:(0:Int)<(ew T).length:=by have:=qc T;omega
 go_enter func61,ntmps61;go_wp2_with(first|(go_at_call 113;(with_reducible refine h1.out.mono ?_);rintro e w1⟨rfl,hb1⟩;have B1:=aa hb1;clear hb1)|(go_at_call 109;(with_reducible refine(h2.out w1 B1.out).mono ?_);rintro e w2⟨lv2,lvs2,rfl,ho2,-,hb2⟩;obtain⟨b2,cap2,rfl⟩:=ey ho2;have B2:=aa (B1.out.trans (hb2.mono B1.out.size));clear ho2 hb2)|(go_at_call 114;(with_reducible refine(h3.out w2 B2.out).mono ?_);rintro e w3⟨rfl,hb3⟩;have B3:=aa (B2.out.trans (hb3.mono B2.out.size));clear hb3;have hM0:=sp.made w3)|(refine nw _ rfl _ _ _ (.inr rfl) rfl hM0 (by unfold maxLen;omega) 1 (by omega) (by omega) (.func (.func 115) #[] #[]) rfl rfl ?_;intro v1 hM1 hg1)|(refine nw _ rfl _ _ _ (.inr rfl) rfl hM1 (by unfold maxLen;omega) 2 (by omega) (by omega) (.func (.func 116) #[] #[]) rfl rfl ?_;intro v2 hM2 hg2)|(refine nw _ rfl _ _ _ (.inr rfl) rfl hM2 (by unfold maxLen;omega) 3 (by omega) (by omega) (.func (.func 117) #[] #[]) rfl rfl ?_;intro v3 hM3 hg3)|(refine nw _ rfl _ _ _ (.inr rfl) rfl hM3 (by unfold maxLen;omega) 4 (by omega) (by omega) (.func (.func 118) #[] #[]) rfl rfl ?_;intro v4 hM4 hg4)|(refine nw _ rfl _ _ _ (.inr rfl) rfl hM4 (by unfold maxLen;omega) 5 (by omega) (by omega) (.func (.func 119) #[] #[]) rfl rfl ?_;intro v5 hM5 hg5)|(go_at_call 120;have B4:=aa ((Ex.of (S:=[w3.heap.size]) ((aw _ w3).alloc ac (.map #[] 0))).grow hg1|>.grow hg2|>.grow hg3|>.grow hg4|>.grow hg5);clear hg1 hg2 hg3 hg4 hg5 hM1 hM2 hM3 hM4;have B5:=aa (B3.out.trans ((B4.out.below ac (by simp)).mono B3.out.size));have MB:=aa (show sp v5 w3.heap.size 5 jfn from hM5);refine(h4.out v5 B5.out).mono ?_;rintro e w6⟨lv6,rfl,ho6,hb6⟩;have O6:=aa ho6;have B6:=aa (B5.out.trans (hb6.mono B5.out.size));have V6:=aa (ip (VV.out v5 B5.out) (Kt.below hb6));have M6:=aa (MB.out.below hb6);obtain⟨a6,c6,rfl⟩:=ey ho6;clear ho6 hb6 hM5 MB B4 B5))
 have J7:Hid (mx (w6.alloc (af2 (.slice a6 (fy (ew T)).length c6) (.slice none 0 0) (n:Nat))) w6.heap.size (w6.heap.size+1) ((fy (ew T)).map fun p=>f p.1 p.2) [] (n:Nat)):=aa (by
  have hb:=(aw w6.heap.size w6).alloc ac (af2 (.slice a6 (fy (ew T)).length c6) (.slice none 0 0) (n:Nat))
  have hlm:((fy (ew T)).map fun p=>f p.1 p.2).length=(fy (ew T)).length:=List.length_map _
  refine⟨⟨a6,c6,none,0,vr,[],?_,?_,ip V6.out (Kt.below hb),?_,bj _ _ _ _,.nil⟩,Nat.lt_succ_self _,by simp,by omega,by simp⟩
  ·rw[hlm];exact At.new _ _
  ·rw[hlm];exact(ft.own O6.out).keep (Kt.below hb)
  ·rw[hlm]
   refine⟨o8 O6.out,fun a ha=>?_⟩
   obtain⟨b,o,hb',hlt,-⟩:=(ft.own O6.out).cell (aka T)
   rw[ha]at hb'
   cases hb'
   exact Nat.lt_succ_of_lt hlt)
 have HB7:=aa ((aw w6.heap.size w6).alloc ac (af2 (.slice a6 (fy (ew T)).length c6) (.slice none 0 0) (n:Nat)));clear O6 V6 VV h1 h2 h3 h4 hmm;generalize w6.alloc (.cells #[.slice a6 (fy (ew T)).length c6,.slice none 0 0,.int .i64 (n:Nat)] 183)=W7 at *;go_loopw[11] (fun i wr=>∃q:Nat,q<=(ew T).length/\i=.int .i64 ((q:Int)-1)/\mx wr w6.heap.size (w6.heap.size+1) ((fy ((ew T).take q)).map fun p=>f p.1 p.2) ((rg ((ew T).drop q)).map (qh f n)).reverse (n:Nat)/\Below w6.heap.size w6 wr) (fun i _=>(intOf i+1).toNat)
 case atStart=>exact⟨(ew T).length,ac,rfl,by rw[dr,List.drop_length];exact J7.out,HB7.out⟩
 case round=>
  clear J7 HB7;obtain⟨q,hq,rfl,hj,hb⟩:=hrel;have HJ:=aa hj;have HB:=aa hb;clear hj hb;have HBw:=aa (B6.out.trans (HB.out.mono B6.out.size));cases q with
  |zero=>
   have HJ0:Hid (mx wr w6.heap.size (w6.heap.size+1) [] ([]++[qh f n T]) (n:Nat)):=aa (by have:=HJ.out;rw[List.take_zero,List.drop_zero,HPT.out]at this;exact this);have q5:=aa (p8 w6.heap.size (w6.heap.size+1) [] [] (qh f n T) (n:Nat) wr HJ0.out);have hel:(qh f n T).length<=n:=by
    have:=HPR.out 0 T (by rw[List.drop_zero,HPT.out];exact dp);exact kr this.1 this.2
   have q6:=aa fun ad c w' hx=>za ad (qh f n T).length c (ga (qh f n T)) (by omega) (by rw[iw];omega) (by intro u hu;obtain⟨x,_,rfl⟩:=List.mem_map.1 hu;rfl) w' hx
   clear hel;go_wp2_with(first|(go_at_call 121;(with_reducible refine q5.out.mono ?_);rintro e w8⟨ad8,c8,rfl,hc8,hr8,hj8,he8⟩;have R8:=aa hr8;have B8:=aa (HBw.out.trans (he8.below HBw.out.size (by intro y hy;rw[cd.1 hy];exact B6.out.size)));clear hc8 hr8 hj8 he8)|(go_at_call 59;(with_reducible refine(q6.out _ _ _ ?_).mono ?_);exact R8.out.rd;rintro e w9⟨v9,rfl,ho9,hb9⟩;have O9:=aa (fx ho9 B8.out.size);have B9:=aa (B8.out.trans (hb9.mono B8.out.size));clear ho9 hb9))
   go_ret2
   exact⟨_,rfl,O9.out,B9.out⟩
  |succ q=>
   obtain⟨x,hx⟩:∃x,(ew T)[q]?=some x:=⟨_,bs (by omega)⟩;have hmem:x∈ew T:=dm hx;have hqi:(((q+1:Nat):Int)-1)=q:=by omega
   rw[hqi];have hdr:(ew T).drop q=x::(ew T).drop (q+1):=by
    obtain⟨hlt,he⟩:=cy.1 hx;rw[ev hlt,he]
   obtain⟨b,o,pa,pc,rfl,hbm,f0,f1,f2,f3,-⟩:=HN.out.at hx;have HJx:mx wr.drew w6.heap.size (w6.heap.size+1) ((fy ((ew T).take q)++(if x.kind=1 then[(x.els,x.k)]else[])).map fun p=>f p.1 p.2) ((rg ((ew T).drop (q+1))).map (qh f n)).reverse (n:Nat):=by
    have:=HJ.out.below ae.drew;rwa[aa7 _ _ _ hx]at this
   have hok:=aqp (ew T) q HOK.out;rw[hdr]at hok;obtain⟨U,r,hp,hcall⟩:=jop_any f n hn x ((ew T).drop (q+1)) (HNM.out x hmem) (HKD.out x hmem) hok.2 (HPR.out (q+1)) pa pc w6.heap.size (w6.heap.size+1) (fy ((ew T).take q)) wr.drew HJx;have HPU:Hid (rg ((ew T).drop q)=U::r):=aa (by rw[hdr];exact hp);have hkk:x.kind=1\/x.kind=2\/x.kind=3\/x.kind=4\/x.kind=5:=by have:=HKD.out x hmem;omega
   clear hx hmem hqi hdr HJx hok hp;obtain⟨K,hKe⟩:∃K:Nat,K=114+x.kind:=⟨_,rfl⟩;have HC:=aa (hcall K hKe);have hlk2:=(M6.out.below (HB.out.drew)).look (x.kind:Nat) (by omega) (by omega);have hjf:jfn ((x.kind:Nat):Int)=.func (.func K) #[] #[]:=by rw[hKe];rcases hkk with h|h|h|h|h<;>rw[h]<;>rfl
   rw[hjf]at hlk2;have EE:=aa fun w'(hb:Below w.heap.size w w')=>(show w'.cell? ⟨b,o+q*4,none⟩=some (.int .i64 (x.kind:Nat))/\w'.cell? ⟨b,o+q*4+1,none⟩=some (.int .i64 (x.num:Nat))/\w'.cell? ⟨b,o+q*4+2,none⟩=some (.slice pa x.els.length pc)/\w'.cell? ⟨b,o+q*4+3,none⟩=some (.int .i64 (x.k:Nat))from⟨(hb.cell (p:=⟨b,o+q*4,none⟩) hbm).trans f0,(hb.cell (p:=⟨b,o+q*4+1,none⟩) hbm).trans f1,(hb.cell (p:=⟨b,o+q*4+2,none⟩) hbm).trans f2,(hb.cell (p:=⟨b,o+q*4+3,none⟩) hbm).trans f3⟩)
   have dd:=EE.out wr.drew HBw.out.drew;have hq0:(0:Int)<=q:=by omega
   have hqi:(q:Int)<(ew T).length:=by omega
   have hKK:K=115\/K=116\/K=117\/K=118\/K=119:=by omega
   clear f0 f1 f2 f3 hcall hkk hjf hKe;go_wp2_with fail
   refine wp_region_held_drew (S:=fun w'=>w'.cell? ⟨b,o+q*4,none⟩=some (.int .i64 (x.kind:Nat))/\w'.cell? ⟨b,o+q*4+1,none⟩=some (.int .i64 (x.num:Nat))/\w'.cell? ⟨b,o+q*4+2,none⟩=some (.slice pa x.els.length pc)/\w'.cell? ⟨b,o+q*4+3,none⟩=some (.int .i64 (x.k:Nat))) (by kernel_rfl) dd (fun hS=>?_);refine tk 0 43 (.map (some w3.heap.size)) hS ?_;refine tk 1 44 (.slice (some ⟨b,o,none⟩) (ew T).length cn) hS ?_;refine tk 2 45 (.int .i64 q) hS ?_;refine tk 3 46 (.pointer (some ⟨b,o+q*4,none⟩)) hS ?_;refine tk 4 47 (.pointer (some ⟨b,o+q*4,none⟩)) hS ?_;refine tk 5 48 (.int .i64 (x.kind:Nat)) hS ?_;refine tk 7 50 (.pointer (some ⟨w6.heap.size,0,none⟩)) hS ?_;refine tk 8 51 (.slice (some ⟨b,o,none⟩) (ew T).length cn) hS ?_;refine tk 9 52 (.int .i64 q) hS ?_;refine tk 10 53 (.pointer (some ⟨b,o+q*4,none⟩)) hS ?_;refine tk 11 54 (vw x pa pc) hS ?_;refine mw 6 (fun Kc hK=>?_);go_simp;refine hK.out _ _ hS (fun hH=>?_);try simp only[Act.put,ag,ai,aj]
   clear hK Kc;refine mw 12 (fun Kc hK=>?_);rcases hKK with rfl|rfl|rfl|rfl|rfl
   all_goals
    go_simp;refine HC.out.mono ?_;rintro e w8⟨ad8,c8,rfl,hc8,hr8,hj8,he8⟩;have HB8:=aa (HB.out.drew.trans (he8.below HB.out.drew.size (by intro y hy;rw[cd.1 hy];exact ac)));have dd8:=EE.out w8 (B6.out.trans (HB8.out.mono B6.out.size));refine hK.out _ _ dd8 (fun hH=>?_);try simp only[Act.put,ag,ai,aj]
    clear hK Kc;refine mw 13 (fun Kc hK=>?_);go_simp;refine hK.out _ _ dd8 (fun hH=>?_);try simp only[Act.put,ag,ai,aj]
    clear hK Kc;refine wpAnyH_done (by kernel_rfl) ?_ _;obtain⟨⟨af,cf,ah,ch,vf,vh,hA,hF,hFr,hcf,hO,hOr⟩,hlt,hle,hlf,hls⟩:=hj8;have hst:(List.map (qh f n) r).reverse.length+1<=64:=by
     have h1:=congrArg List.length HPU.out;have h2:=pil_len ((ew T).drop q);rw[List.length_drop]at h2;rw[List.length_reverse,List.length_map];simp only[bz]at h1;omega
    have HA8:=aa hA;have HO8:=aa hO;have HPP:=aa fun w9 a9 c9 ho hb9 hk9=>mx.push (w9:=w9) (a9:=a9) (c9:=c9) hA hF hFr hcf hOr hlt hle hlf (by omega) hc8 hr8 ho hb9 hk9
    have Hle:=aa hle;have c1:=hA.cell 1;have fz8:=hA.free 1;have l8:=hA.lt;simp only[ak,am,au]at c1;clear hA hF hFr hcf hO hOr hlt hle hlf hls dd dd8 hlk2 hc8 hr8 he8 hS;generalize hstL:(List.map (qh f n) r).reverse.length=m at *;have hmi:(m:Int)<=64:=by omega
    go_wp2_with(at_builtin;refine gr ai5 rfl _ _ rfl rfl HO8.out [.slice ad8 (qh f n U).length c8] (by simp[go_sem]) rfl (by simp[Value.oneCell']) (by unfold maxLen;omega) (by omega) Hle.out ?_;intro v9 w9 hown9 hb9 hk9;obtain⟨a9,c9,rfl⟩:=ey hown9;have HJ10:=aa (HPP.out w9 a9 c9 hown9 hb9 hk9);have HB9:=aa hb9;have HA9:=aa (HA8.out.below hb9 (Nat.lt_succ_self _));clear hown9 hb9 hk9;have c19:=HA9.out.cell 1;simp only[ak,am,au]at c19;have fz9:=HA9.out.free 1;have l9:=HA9.out.lt)
    have HB10:=aa ((HB8.out.trans (HB9.out.mono (dt _))).setCell (p:=⟨w6.heap.size,1,none⟩) ac (.slice a9 (m+1) c9));go_roundw
    case rel=>
     refine⟨q,by omega,by go_num,?_,HB10.out⟩;have e:(List.map (qh f n) (rg ((ew T).drop q))).reverse=(List.map (qh f n) r).reverse++[qh f n U]:=by rw[HPU.out,List.map_cons,List.reverse_cons]
     rw[e];exact HJ10.out
    case measure=>simp[intOf]
end
section
set_option maxRecDepth 100000
set_option maxHeartbeats 8000000
open Go.RowKit Go.Shelf
theorem ajv{α:Type}{V:α->List Value->Prop}:∀(l:List α)(vs:List Value),vs.length=l.length->(∀(j:Nat)a v,l[j]?=some a->vs[j]?=some v->V a [v])->f9 V l vs
 |[],[],_,_=>.nil
 |[],_::_,h,_=>by simp at h
 |_::_,[],h,_=>by simp at h
 |a::l,v::vs,h,hv=>f9.cons (V:=V) (hv 0 a v rfl rfl) (ajv l vs (by simpa using h) fun j b u hb hu=>hv (j+1) b u hb hu)
def fTo(t:ByteArray)(m:Nat)(e:List (Nat->Bool))(k:Nat):List Int:=qm t e.length (gc e) (k:Nat) (m+1-e.length)
theorem abh(t:ByteArray)(m:Nat)(e:List (Nat->Bool))(k:Nat)(h:1<=e.length):jj (fTo t m e k)/\∀x∈fTo t m e k,x<(m:Int):=by
 have:=aa2 t e.length (gc e) (k:Nat) (m+1-e.length);refine⟨this.1,fun x hx=>?_⟩;have:=this.2 x hx;omega
def zn(T:QT)(t:ByteArray)(m:Nat)(E:Int):List Int:=if E=1\/jk T=true then qh (fTo t m) m T else[]
def akz(T:QT)(t:ByteArray)(m:Nat)(E:Int)(w:World)(e:Ending)(w':World):Prop:=
 ∃v,e=.returned (.tuple #[v,.int .i64 (if E=1 then 0 else 200)])/\Below w.heap.size w w'∧
  w'.ownsRow w.heap.size 3 1 v (zn T t m E).length (ga (zn T t m E))
theorem aht(S FD base N0:Nat)(T:QT)(hE:∀x∈ew T,x.els.length<=2000)(hrT:ir T=true)(t:ByteArray)(m:Nat)(hm:m<=1000)(E:Int)(hEE:E=1\/E=2)(F sz limit:Int)(sps:List Sp)(r:Int)(held:ByteArray)(ν:Nat->Nat)(hν:∀(k:Nat)p,(fy (ew T))[k]?=some p->ν k=m+1-p.1.length)
 (w:World) (h:tu w S FD base N0 T t F sz limit sps m r E held ν):
 Calls prog 29 #[.pointer (some ⟨S,0,none⟩)] w (akz T t m E w):=by
 obtain⟨⟨aq,cq,asr,csr,hS,hcq,hN,-⟩,-,-,⟨vs,hFd⟩,-,-⟩:=h;have hll:=se (ew T);have hl64:=m9 hrT;have x0:Below w.heap.size w w.drew:=(aw _ w).drew;have hR:qp w.drew (some ⟨FD,0,none⟩) ((fy (ew T)).map fun p=>fTo t m p.1 p.2):=by
  have hF:=hFd.below x0;refine⟨vs,?_,ajv _ vs (by rw[hF.len,List.length_map]) fun j a v ha hv=>?_⟩
  ·refine .inr ⟨FD,0,vs.toArray,(0,0),rfl,hF.at_,fun j u hj=>?_⟩
   rw[dg,ak];exact hj
  ·rw[List.getElem?_map]at ha
   obtain⟨p,hp,rfl⟩:=Option.map_eq_some_iff.1 ha;have ho:=hF.own j v hv;rw[ac9 hp,hν j p hp]at ho;obtain⟨ad,cap,rfl⟩:=ey ho;exact⟨ad,cap,rfl,o8 ho,ft.own ho⟩
 have h1:=aa (arc (fTo t m) T m hm hrT hE (fun e k hek=>abh t m e k (by
  have:=j6 hrT hek
  unfold fv at this
  simp only[ce,cg]at this
  exact this.1)) aq (some ⟨FD,0,none⟩) cq (fy (ew T)).length hcq w.drew (hN.below x0) hR)
 have h2:=aa fun w'(hb:Below w.heap.size w w')=>ah5 T (by omega) aq cq w' (hN.below hb)
 have hSS:=aa hS;have k0:=hS.cell 0;have k2:=hS.cell 2;have k8:=hS.cell 8;have k10:=hS.cell 10;have l0:=hS.lt;simp only[ak,am,au]at k0 k2 k8 k10;clear hS hN hFd hrT hE x0 hR hν;rcases hEE with rfl|rfl
 all_goals(go_enter func29,ntmps29)
 all_goals(go_wp2_with fail)
 all_goals go_region_held3 (fun w'=>fo w w') (first|with_reducible assumption|with_reducible exact fo.start _) (first|(go_at_call 61;refine h1.out.mono ?_;rintro e w1⟨v,rfl,ho1,hb1⟩;have O1:=fo.calld (fo.refl w) hb1;have HB1:=aa (show Below w.heap.size w w1 from O1.2.2.2);have HS1:=aa (hSS.out.below HB1.out l0);have k18:=HS1.out.cell 8;have k12:=HS1.out.cell 2;have l1:=HS1.out.lt;simp only[ak,am,au]at k18 k12;have HO1:=aa ho1;clear hb1 ho1))
 ·go_wp2_with fail
  go_ret2
  exact⟨v,rfl,HB1.out,by unfold zn;rw[if_pos (.inl rfl)];exact HO1.out⟩
 cases hp:jk T
 ·rw[hp]at h2
  go_wp2_with(go_at_call 62;refine(h2.out w1 HB1.out).mono ?_;rintro e w2⟨rfl,hb2⟩;have HB2:=aa (HB1.out.trans (hb2.mono HB1.out.size)))
  go_ret2
  exact⟨_,rfl,HB2.out,by unfold zn;rw[hp];exact bj _ _ _ _⟩
 ·rw[hp]at h2
  go_wp2_with(go_at_call 62;refine(h2.out w1 HB1.out).mono ?_;rintro e w2⟨rfl,hb2⟩;have HB2:=aa (HB1.out.trans (hb2.mono HB1.out.size));have HO2:=aa (fe HO1.out hb2))
  go_ret2
  exact⟨v,rfl,HB2.out,by unfold zn;rw[hp];exact HO2.out⟩
end
end Go.Proofs.YtjfkmoinldlmaaaGreat
