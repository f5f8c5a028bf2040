/- The walk of BeagleFails, part 48. Walk of engine.open at any text. Walk of engine.Run at any text, where the text fails. Walk of engine.Run at one text. Walk of engine.Line at one text. Walks of package grid at one field and one mask: which there are. Walk of grid.May at one mask. Walks of grid.kinds at a mask of one class that is not full, and of the function that makes the row of a class, at one field and one mask. -/
import Derived.Test.YtjfkmoinldlmaaaGreatFa47
namespace Go.Proofs.YtjfkmoinldlmaaaGreat
open Go.Proofs.Tryz
section
set_option maxRecDepth 100000
set_option maxHeartbeats 8000000
open Go.RowKit Go.Shelf
def pmOk:PM->Prop
 | .ands T=>∀x∈ew T,x.els.length<=64
 | .ors T=>∀x∈ew T,x.els.length<=64
 |_=>True
theorem qx.els{s:ByteArray}{p:Nat}{l:List gq}(h:qx s p l):∀t∈l,t.els.length<=64:=by
 induction h with
 |fin p h=>intro t ht;cases ht
 |blank p l h hb r ih=>exact ih
 |tok p t q l h hb e r ih=>
  intro u hu;rcases cz.1 hu with rfl|hu
  ·exact e.len.1
  ·exact ih u hu
theorem PR.els{m:PM}{l r:List gq}{T:QT}(h:PR m l T r):(∀t∈l,t.els.length<=64)->pmOk m->(∀x∈ew T,x.els.length<=64)/\∀t∈r,t.els.length<=64:=by
 induction h with
 |not t r T r' h k ih=>
  intro hl _;obtain⟨h1,h2⟩:=ih (fun u hu=>hl u (db _ hu)) trivial;refine⟨fun x hx=>?_,h2⟩;simp only[ew,cz]at hx;rcases hx with rfl|hx
  ·exact cx _
  ·exact h1 x hx
 |shift t r T r' h k ih=>
  intro hl _;obtain⟨h1,h2⟩:=ih (fun u hu=>hl u (db _ hu)) trivial;refine⟨fun x hx=>?_,h2⟩;simp only[ew,cz]at hx;rcases hx with rfl|hx
  ·exact cx _
  ·exact h1 x hx
 |fuzz t u r h hu hn=>
  intro hl _;refine⟨fun x hx=>?_,fun v hv=>hl v (db _ (db _ hv))⟩;simp only[ew,cd]at hx;rw[hx];exact hl t dp
 |find t r h hu=>
  intro hl _;refine⟨fun x hx=>?_,fun v hv=>hl v (db _ hv)⟩;simp only[ew,cd]at hx;rw[hx];exact hl t dp
 |brack t r T u r' h k hu ih=>
  intro hl _;obtain⟨h1,h2⟩:=ih (fun u hu=>hl u (db _ hu)) trivial;exact⟨h1,fun v hv=>h2 v (db _ hv)⟩
 |part l T r T' r' k c ih1 ih2=>
  intro hl _;obtain⟨h1,h2⟩:=ih1 hl trivial;exact ih2 h2 h1
 |query l T r T' r' k c ih1 ih2=>
  intro hl _;obtain⟨h1,h2⟩:=ih1 hl trivial;exact ih2 h2 h1
 |andEnd T l h=>intro hl ho;exact⟨ho,hl⟩
 |andOn T t r U r' T' r'' h k c ih1 ih2=>
  intro hl ho;obtain⟨h1,h2⟩:=ih1 (fun u hu=>hl u (db _ hu)) trivial;refine ih2 h2 fun x hx=>?_
  simp only[ew,cz,List.mem_append]at hx;rcases hx with rfl|hx|hx
  ·exact cx _
  ·exact ho x hx
  ·exact h1 x hx
 |orEnd T l h=>intro hl ho;exact⟨ho,hl⟩
 |orOn T t r U r' T' r'' h k c ih1 ih2=>
  intro hl ho;obtain⟨h1,h2⟩:=ih1 (fun u hu=>hl u (db _ hu)) trivial;refine ih2 h2 fun x hx=>?_
  simp only[ew,cz,List.mem_append]at hx;rcases hx with rfl|hx|hx
  ·exact cx _
  ·exact ho x hx
  ·exact h1 x hx
theorem ov.els{s:ByteArray}{T:QT}(h:ov s T):∀x∈ew T,x.els.length<=64:=by
 obtain⟨l,h1,h2⟩:=h;exact(h2.els h1.els trivial).1
theorem tu.base{w:World}{S FD base base' N0:Nat}{T:QT}{t:ByteArray}{F sz limit:Int}{sps:List Sp}{m rounds en:Int}{held:ByteArray}{ν:Nat->Nat}(h:tu w S FD base N0 T t F sz limit sps m rounds en held ν)(hb:base'<=base):tu w S FD base' N0 T t F sz limit sps m rounds en held ν:=by
 obtain⟨h1,h2,h3,h4,⟨g1,g2,g3,g4⟩,h6⟩:=h;exact⟨h1,h2,h3,h4,⟨by omega,by omega,fun s hs=>by have:=g3 s hs;omega,by omega⟩,h6⟩
def ajl(R:QT->Prop)(ok:Prop)(w:World)(e:Ending)(w':World):Prop:=
 ∃(v:Value)(a no:Int),e=.returned (.tuple #[v,.int .i64 a,.int .i64 no])/\Below w.heap.size w w'∧
  ((0<no/\no<200/\¬ok)\/(no=0/\∃T ad cap,R T/\v=.slice ad (ew T).length cap/\(ew T).length<=cap/\(ew T).length<=64/\gd w' ad (ew T)))
def agy(R:QT->Prop)(ok:Prop)(t:ByteArray)(F sz limit:Int)(w:World)(e:Ending)(w':World):Prop:=
 ∃(q v:Value)(a c:Int),e=.returned (.tuple #[q,v,.int .i64 a,.int .i64 c])/\Below w.heap.size w w'∧
  ((0<c/\c≠200/\¬ok)\/(c=0/\a=0/\∃T,R T/\ir T=true/\∃S FD sps,v=.pointer (some ⟨S,0,none⟩)/\tu w' S FD w.heap.size w'.heap.size T t F sz limit sps 0 0 0 ⟨#[]⟩ fun _=>0))
theorem amr(s:ByteArray)(w:World):Calls prog 57 #[.string s] w (ajl (ov s) False w):=
 (ams s w).mono fun e w' h=>by
  obtain⟨v,a,no,he,hb,hc⟩:=h;refine⟨v,a,no,he,hb,?_⟩;rcases hc with⟨h1,h2⟩|⟨h1,T,vs,hP,hl,-,ho,hv⟩
  ·exact .inl ⟨h1,h2,id⟩
  ·obtain⟨ad,cap,rfl⟩:=ey ho
   exact .inr ⟨h1,T,ad,cap,hP,rfl,o8 ho,hl,gd.own ho hv⟩
theorem afs(R:QT->Prop)(ok:Prop)(s t:ByteArray)(F sz limit most fl:Int)(pv:Value)(q1:∀w',Calls prog 57 #[.string s] w' (ajl R ok w'))(hR:∀T,R T->∀x∈ew T,x.els.length<=64)
 (hok:ok->F=0/\sz=0/\limit<=10000/\∀T,R T->ir T=true/\(te (fy (ew T)):Int)<=limit) (w:World):
 Calls prog 26 #[.string s,.agg #[.int .i64 F,.int .i64 sz,.int .i64 limit,.int .i64 most,pv,.int .i64 fl]] w (agy R ok t F sz limit w):=by
 have q1:=aa q1;have q2:=aa fun(T:QT)hl hE2 adn cn hcn w' hN=>aam T t hl hE2 adn cn hcn F sz limit w' hN
 have HA:=aa (At.new w (.cells #[.int .i64 F,.int .i64 sz,.int .i64 limit,.int .i64 most,pv,.int .i64 fl] 37));have B0:=aa ((aw w.heap.size w).alloc ac (.cells #[.int .i64 F,.int .i64 sz,.int .i64 limit,.int .i64 most,pv,.int .i64 fl] 37));have HR:=aa hR;have HOK:=aa hok;clear hR hok;go_enter func26,ntmps26;go_wp2_with fail
 go_at_call 57;refine(q1.out _).mono ?_;rintro e w1⟨v,a,no,rfl,hb1,hc⟩;have A1:=HA.out.below hb1 HA.out.lt;have a0:=A1.cell 0;have a1:=A1.cell 1;have a2:=A1.cell 2;have al:=A1.lt;simp only[ak,am,au]at a0 a1 a2;have B1:=aa (B0.out.trans (hb1.mono B0.out.size));clear A1 hb1 HA B0;rcases hc with⟨h0,h2,h3⟩|⟨rfl,T,aq,cq,hP,rfl,hcq,hl,hN⟩
 ·have hcn:(no==0)=false:=by rw[ax];omega
  have hcn2:no≠0:=by omega
  go_wp2_with fail
  exact ay (v:=.tuple #[.slice none 0 0,.pointer none,.int .i64 a,.int .i64 no]) (by simp[results,results26,go_sem]) rfl ⟨_,_,a,no,rfl,B1.out,.inl ⟨h0,by omega,h3⟩⟩
 ·have H2:=aa (q2.out T hl (fun x hx=>ba (HR.out T hP x hx) (by omega)) aq cq hcq w1 hN)
  have HP:=aa hP;clear hN hP q1 q2;go_wp2_with fail
  go_at_call 58;refine H2.out.mono ?_;rintro e w2⟨v2,c,rfl,hb2,hc⟩;have B2:=aa (B1.out.trans (hb2.mono B1.out.size));rcases hc with⟨h0,h3,h4⟩|⟨rfl,hrT,S,FD,sps,rfl,hS⟩
  ·have hcn:(c==0)=false:=by rw[ax];omega
   have hcn2:c≠0:=by omega
   go_wp2_with fail
   exact ay (v:=.tuple #[.slice none 0 0,.pointer none,.int .i64 0,.int .i64 c]) (by simp[results,results26,go_sem]) rfl ⟨_,_,0,c,rfl,B2.out,.inl ⟨h0,h3,fun k=>by
    have h:=HOK.out k
    have h5:=h.2.2.2 T HP.out
    exact h4 ⟨h.1,h.2.1,h5.1,h5.2,h.2.2.1⟩⟩⟩
  ·have HS:=aa hS
   clear hS;go_wp2_with fail
   exact ay (v:=.tuple #[.slice aq (ew T).length cq,.pointer (some ⟨S,0,none⟩),.int .i64 0,.int .i64 0]) (by simp[results,results26,go_sem]) rfl ⟨_,_,0,0,rfl,B2.out,.inr ⟨rfl,rfl,T,HP.out,hrT,S,FD,sps,rfl,HS.out.base B1.out.size⟩⟩
end
section
set_option maxRecDepth 100000
set_option maxHeartbeats 8000000
open Go.RowKit Go.Shelf
theorem FdI.start{w w':World}{FD N0' N:Nat}{ρ:Nat->List Int}{vs:List Value}(h:FdI w FD w.heap.size N ρ vs)(hb:Below w.heap.size w w'):FdI w' FD N0' N ρ vs:=by
 refine⟨h.at_.below hb h.at_.lt,h.len,fun k v hv=>?_,h.dis⟩;have ho:=h.own k v hv;refine⟨ho.1,?_⟩;rcases ho.2 with h2|⟨g,cap,cur,huv,hbb,hg,r⟩
 ·exact .inl h2
 ·have:=(df.1 hg).1
  omega
theorem tu.start{w w':World}{S FD base N0':Nat}{T:QT}{t:ByteArray}{F sz limit:Int}{sps:List Sp}{m rounds en:Int}{held:ByteArray}{ν:Nat->Nat}(h:tu w S FD base w.heap.size T t F sz limit sps m rounds en held ν)(hb:Below w.heap.size w w')(hN:w.heap.size<=N0')(hN2:N0'<=w'.heap.size):tu w' S FD base N0' T t F sz limit sps m rounds en held ν:=by
 obtain⟨⟨aq,cq,asr,csr,hS,hcq,hNo,hT⟩,hsl,hSr,⟨vs,hFd⟩,⟨g1,g2,g3,g4⟩,hn0⟩:=h;exact⟨⟨aq,cq,asr,csr,hS.below hb hS.lt,hcq,hNo.below hb,hT.keep (.below hb)⟩,hsl,hSr.below hb hN,⟨vs,hFd.start hb⟩,⟨g1,g2,g3,by omega⟩,hN2⟩
def farF(fp:Nat)(w:World):Nat:=(match w.cell? ⟨fp,1,none⟩with|some (.slice _ n _)=>n|_=>0)+(match w.cell? ⟨fp,2,none⟩,w.cell? ⟨fp,3,none⟩with|some (.int _ a),some (.int _ b)=>(b-a).toNat|_,_=>0)
theorem akp{w:World}{lo fp:Nat}{t:ByteArray}{ps:List Int}{fr to:Nat}{en:Int}(h:qr w lo fp t ps fr to en):farF fp w=ps.length+(to-fr):=by
 obtain⟨ad,cap,hA,_⟩:=h.at_;have c1:=hA.cell 1;have c2:=hA.cell 2;have c3:=hA.cell 3;simp only[ak,am,au]at c1 c2 c3;unfold farF;rw[c1,c2,c3];simp only;omega
theorem rd_less(ps:List Int)(m to:Nat)(h:m<to):ps.tail.length+(to-(m+rdN ps (to-m)))<ps.length+(to-m):=by
 cases ps with
 |nil=>simp only[rdN,List.tail_nil,List.length_nil];omega
 |cons p ps=>simp only[List.tail_cons,bz];omega
def RunPost(R:QT->Prop)(ok:Prop)(t:ByteArray)(to:Nat)(E most:Int)(w:World)(e:Ending)(w':World):Prop:=
 ∃(v:Value)(l:List Int)(a c:Int),e=.returned (.tuple #[v,.int .i64 a,.int .i64 c])/\Below w.heap.size w w'/\w'.ownsRow w.heap.size 3 1 v l.length (ga l)∧
  ((c≠0/\c≠200/\¬(ok/\∀T,R T->((zn T t to E).length:Int)<=max 0 most))\/(a=0/\c=(if E=1 then 0 else 200)/\∃T,R T/\ir T=true/\l=zn T t to E))
structure RnL(w2 w:World)(S FD fp lo base N0:Nat)(T:QT)(t:ByteArray)(to:Nat)(E F sz limit:Int)(sps:List Sp)(ps:List Int):Prop where
 run:∃m b r ν,RunI w S FD fp lo base N0 T t to E F sz limit sps ps m b r ν
 len:ps.length<=1000
 bl:Below base w2 w
theorem ajr(R:QT->Prop)(ok:Prop)(s t:ByteArray)(ht:t.size<=1000)(ps:List Int)(hps:ps.length<=1000)(fl E:Int)(to:Nat)(hto:to<=t.size)(hc:(E=2/\fl=(to:Nat))\/(E=1/\fl= -1/\to=t.size))(F sz limit most:Int)(pad:Option Addr)(pcap:Nat)(hRE:∀T,R T->∀x∈ew T,x.els.length<=64)
 (q1:∀w',Calls prog 26 #[.string s,.agg #[.int .i64 F,.int .i64 sz,.int .i64 limit,.int .i64 most,.slice pad ps.length pcap,.int .i64 fl]] w' (agy R ok t F sz limit w')) (w:World) (hR:gg w pad ps.length (gi ps) w.heap.size):
 Calls prog 8 #[.string s,.string t,.agg #[.int .i64 F,.int .i64 sz,.int .i64 limit,.int .i64 most,.slice pad ps.length pcap,.int .i64 fl]] w (RunPost R ok t to E most w):=by
 have q1:=aa q1;have hEE:E=1\/E=2:=hc.elim (fun h=>.inr h.1) fun h=>.inl h.1
 have hE0:E≠0:=by rcases hEE with h|h<;>rw[h]<;>decide
 have HRE:=aa hRE;have q2:=aa fun w' hR'=>aek t ht ps hps fl E to hto hc pad pcap w' hR'
 have HR:=aa hR;have HA:=aa (At.new w (.cells #[.int .i64 F,.int .i64 sz,.int .i64 limit,.int .i64 most,.slice pad ps.length pcap,.int .i64 fl] 37));have B0:=aa ((aw w.heap.size w).alloc ac (.cells #[.int .i64 F,.int .i64 sz,.int .i64 limit,.int .i64 most,.slice pad ps.length pcap,.int .i64 fl] 37));have hz0:(w.alloc (.cells #[.int .i64 F,.int .i64 sz,.int .i64 limit,.int .i64 most,.slice pad ps.length pcap,.int .i64 fl] 37)).heap.size=w.heap.size+1:=by simp
 have HZ0:=aa hz0;have hti:(t.size:Int)<=1000:=by omega
 clear hR hz0 hRE hc;go_enter func8,ntmps8;go_wp2_with fail
 refine wn 0 rfl ?_;go_wp2_with fail
 go_at_call 26;refine(q1.out _).mono ?_;rintro e w1⟨q,v,a,c,rfl,hb1,hc⟩;have B1:=aa (B0.out.trans (hb1.mono B0.out.size));have HA1:=aa (HA.out.below hb1 HA.out.lt);clear HA B0;rcases hc with⟨h0,h2,h3⟩|⟨rfl,rfl,T,hP,hrT,S,FD,sps,rfl,hS⟩
 ·have hcn:(c==0)=false:=by rw[ax];omega
  have hcn2:c≠0:=by omega
  go_wp2_with fail
  all_goals(try go_step3)
  all_goals(refine⟨rfl,?_⟩)
  all_goals(dsimp only)
  go_wp2_with fail
  simp only[Exit.jump];refine ay (results_tmp3 rfl _ _ _) rfl ⟨_,[],a,c,rfl,B1.out,bj _ _ _ _,.inl ⟨hcn2,h2,fun k=>h3 k.1⟩⟩
 have HS1:=aa hS;have HP:=aa hP;have HRT:=aa hrT;have hz1:=hb1.size;rw[HZ0.out]at hz1 hS;rw[HZ0.out]at HS1;have a3:=HA1.out.cell 4;have a4:=HA1.out.cell 5;have al:=HA1.out.lt;simp only[ak,am,au]at a3 a4;clear hb1 hS hP hrT q1;go_wp2_with(go_at_call 27;(with_reducible refine(q2.out w1 ((HR.out.below B1.out ac).mono B1.out.size)).mono ?_);rintro e w2⟨fp,rfl,hf2,hb2⟩;have HF2:=aa hf2;have HB2:=aa hb2;clear hf2 hb2)
 obtain⟨fl1,fl2⟩:w1.heap.size<=fp/\fp<w2.heap.size:=⟨HF2.out.le,by obtain⟨ad,cap,h,_⟩:=HF2.out.at_;exact h.lt⟩;have HI2:Hid (RnL w2 w2 S FD fp w1.heap.size (w.heap.size+1) w2.heap.size T t to E F sz limit sps ps):=aa (by
  have hS:=HS1.out
  have l1:S<w1.heap.size:=by obtain⟨aq,cq,asr,csr,h,_⟩:=hS.at_;exact h.lt
  have l2:FD<w1.heap.size:=by obtain⟨vs,h⟩:=hS.fd;exact h.at_.lt
  have l3:∀u∈sps,u.nx<w1.heap.size:=fun u hu=>by
   obtain⟨k,hk⟩:=List.mem_iff_getElem?.1 hu
   obtain⟨p,hp⟩:∃p,(fy (ew T))[k]?=some p:=⟨_,bs (by rw[<-hS.sl];exact(cy.1 hk).1)⟩
   exact(hS.sr.one k p u hp hk).2.2.1
  have he:t.extract 0 0=⟨#[]⟩:=by simp;rfl
  refine⟨⟨0,0,0,fun _=>0,⟨?_,HF2.out,⟨ac,cx _,hto⟩,fun k p hp=>⟨ac,cx _⟩,⟨l1,l2,l3,fl2,by omega⟩⟩⟩,hps,ae⟩
  rw[he]
  exact hS.start HB2.out HB2.out.size ac)
 have HA2:=aa (HA1.out.below HB2.out HA1.out.lt);have B2:=aa (B1.out.trans (HB2.out.mono B1.out.size));have QS:=aa fun ps m b r ν(hps:ps.length<=1000)w' hI=>ao4 S FD fp w1.heap.size (w.heap.size+1) w2.heap.size T HRT.out t to E hE0 F sz limit sps ps m b r ν ht hps w' hI
 clear HS1 HA1 a3 a4 al q2;go_loopw[] (fun wr=>∃ps',RnL w2 wr S FD fp w1.heap.size (w.heap.size+1) w2.heap.size T t to E F sz limit sps ps') (fun wr=>farF fp wr)
 case atStart=>exact⟨ps,HI2.out⟩
 case round=>
  clear HI2;obtain⟨ps',⟨m,b,r,ν,hI⟩,hp',hbl⟩:=hrel;have hq:=QS.out ps' m b r ν hp' wr hI;have hfar:=akp hI.feed;have HBL:=aa hbl;clear hI hbl;go_wp2_with fail
  go_at_call 28;refine hq.mono ?_;rintro e w3⟨hb3,hcase⟩;have HB3:=aa (HBL.out.trans hb3);rcases hcase with⟨rfl,hlt,b',r',ν',hI'⟩|⟨rfl,r',h',ν',hS',hν⟩
  ·go_wp2_with fail
   have hfar':=akp hI'.feed;go_roundw
   case rel=>exact⟨ps'.tail,⟨_,b',r',ν',hI'⟩,by rw[List.length_tail];omega,HB3.out⟩
   case measure=>
    rw[hfar',hfar];exact rd_less ps' m to hlt
  ·have H3:=aa (aht S FD (w.heap.size+1) w2.heap.size T (fun x hx=>ba (HRE.out T HP.out x hx) (by omega)) HRT.out t to (by omega) E hEE F sz limit sps r' h' ν' hν w3 hS')
   have B3:=aa (B2.out.trans ((HB3.out.mono (dt _))));have HA3:=aa (HA2.out.below HB3.out (Nat.lt_succ_self _));clear hS' hν hb3 hq hfar;obtain⟨L,hL⟩:∃L,L=zn T t to E:=⟨_,rfl⟩;obtain⟨CC,hCC⟩:∃CC:Int,CC=if E=1 then 0 else 200:=⟨_,rfl⟩
   have HCC:=aa hCC;obtain⟨X,hX⟩:∃X:Int,max 0 most=X:=⟨_,rfl⟩;have HXX:=aa hX;have HLe:=aa hL;unfold akz at H3;rw[<-hL,<-hCC]at H3;clear hL hCC;by_cases hm:(L.length:Int)<=X
   ·have hd:decide ((L.length:Int)<=X)=true:=cw hm
    go_wp2_with(go_at_call 29;(with_reducible refine H3.out.mono ?_);rintro e w4⟨v4,rfl,hb4,ho4⟩;obtain⟨ad4,cap4,rfl⟩:=ey ho4;have HB4:=aa hb4;have HO4:=aa ho4;have HA4:=aa (HA3.out.below hb4 HA3.out.lt);have x3:=HA4.out.cell 3;have xl:=HA4.out.lt;simp only[ak,am,au]at x3;clear hb4 ho4)
    simp only[Exit.jump];refine ay (results_tmp3 rfl _ _ _) rfl ⟨_,L,0,CC,rfl,B3.out.trans (HB4.out.mono B3.out.size),fx HO4.out B3.out.size,.inr ⟨rfl,HCC.out,T,HP.out,HRT.out,HLe.out⟩⟩
   ·have hd:decide ((L.length:Int)<=X)=false:=bv hm
    go_wp2_with(go_at_call 29;(with_reducible refine H3.out.mono ?_);rintro e w4⟨v4,rfl,hb4,ho4⟩;obtain⟨ad4,cap4,rfl⟩:=ey ho4;have HB4:=aa hb4;have HO4:=aa ho4;have HA4:=aa (HA3.out.below hb4 HA3.out.lt);have x3:=HA4.out.cell 3;have xl:=HA4.out.lt;simp only[ak,am,au]at x3;clear hb4 ho4)
    go_step3;go_wp2_with fail
    simp only[Exit.jump];refine ay (results_tmp3 rfl _ _ _) rfl ⟨_,[],0,231,rfl,B3.out.trans (HB4.out.mono B3.out.size),bj _ _ _ _,.inl ⟨by decide,by decide,fun k=>by
     have:=k.2 T HP.out
     rw[<-HLe.out,HXX.out]at this
     omega⟩⟩
end
section
open Go.RowKit Go.Shelf
abbrev ts:ByteArray:=⟨#[97,98,97,98]⟩
theorem aow:zn (.find lab 0) ts 4 1=[0,2]:=by decide+kernel
theorem run_at(w:World):
 Calls prog 8 #[.string qs,.string ts,cfv] w fun e w'=>∃v,e=.returned (.tuple #[v,.int .i64 0,.int .i64 0])/\w'.ownsRow w.heap.size 3 1 v 2 [.int .i64 0,.int .i64 2]/\Below w.heap.size w w':=by
 have hp:∀w',Calls prog 57 #[.string qs] w' (ajl (fun T=>T=.find lab 0) True w'):=fun w'=>(aqh w').mono fun e w'' h=>by
  obtain⟨Q,cq,he,hc,hN,hb⟩:=h;exact⟨_,_,_,he,hb,.inr ⟨rfl,_,_,_,rfl,rfl,hc,by decide,hN⟩⟩
 have hE:∀T:QT,T=.find lab 0->∀x∈ew T,x.els.length<=64:=by
  rintro T rfl x hx;simp only[ew,cd]at hx;subst hx;decide
 have h:=ajr (fun T=>T=.find lab 0) True qs ts (by decide) [] (by decide) (-1) 1 4 (by decide) (.inr ⟨rfl,rfl,rfl⟩) 0 0 9 9 none 0 hE (afs _ True qs ts 0 0 9 9 (-1) (.slice none 0 0) hp hE (fun _=>⟨rfl,rfl,by decide,by rintro T rfl;exact⟨aq8,by decide⟩⟩)) w (.inl rfl);refine h.mono fun e w' ⟨v,l,a,c,he,hb,ho,hc⟩=>?_
 rcases hc with⟨_,_,hn⟩|⟨rfl,rfl,T,rfl,_,rfl⟩
 ·exact absurd ⟨trivial,by rintro T rfl;rw[aow];decide⟩ hn
 ·rw[aow]at ho
  exact⟨v,he,ho,hb⟩
end
section
set_option maxRecDepth 100000
set_option maxHeartbeats 4000000
open Go.RowKit Go.Shelf
theorem agh(n b:Int)(h1:n<10)(hb:IntKind.i64.wrap (48+n)=b)(hc:IntKind.u8.wrap b=b)(bx:Nat)(w:World):
 Calls prog 52 #[.int .i64 n,.pointer (some ⟨bx,0,none⟩)] w fun e w'=>e=.returned (.string (strOfNums [b]))/\Below w.heap.size w w':=by
 have hcv:=rq b w;have hA:Below w.heap.size w (w.alloc (.cells #[.int .u8 b] 5)):=ae.alloc ac _;go_enter func52,ntmps52;go_wp2_with fail
 go_ret;exact⟨rfl,hA⟩
theorem line_at(w:World):
 Calls prog 22 #[.string qs,.string ts,cfv] w fun e w'=>e=.returned (.string ⟨#[111,107,32,48,32,50]⟩)/\Below w.heap.size w w':=by
 have q1:=aa fun w'=>run_at w'
 have d0:=aa fun bx w'=>agh 0 48 (by decide) (by decide) (by decide) bx w'
 have d2:=aa fun bx w'=>agh 2 50 (by decide) (by decide) (by decide) bx w'
 have B0:=aa ((aw w.heap.size w).alloc ac cfC);go_enter func22,ntmps22;go_wp2_with(go_at_call 8;refine(q1.out (w.alloc cfC)).mono ?_;rintro e w1⟨v,rfl,ho1,hb1⟩;obtain⟨g,c,rfl,hg,hgl,cc⟩:=yd ho1 (Nat.succ_pos _) rfl;have f0:=cc 0 _ rfl;have f1:=cc 1 _ rfl;have B1:=aa (B0.out.trans (hb1.mono B0.out.size));clear ho1 hb1 cc)
 refine du 3 ?_;have hA:=aa ((aw w1.heap.size w1).alloc ac (.cells #[.func (.func 52) #[] #[.pointer (some ⟨w1.heap.size,0,none⟩)]] 117));have X1:=aa (At.new w1 (.cells #[.func (.func 52) #[] #[.pointer (some ⟨w1.heap.size,0,none⟩)]] 117));have f1':=(hA.out.cell (p:=⟨g,1,none⟩) hgl).trans f1;have hgl':g<(w1.alloc (.cells #[.func (.func 52) #[] #[.pointer (some ⟨w1.heap.size,0,none⟩)]] 117)).heap.size:=az hgl hA.out.size;rw[cj];go_wp2_with(go_at_call 52;refine(d0.out w1.heap.size _).mono ?_;rintro e w2⟨rfl,hb2⟩;have X2:=X1.out.below hb2 (by simp);have b0:=X2.cell 0;have bl:=X2.lt;have g1:=(hb2.cell (p:=⟨g,1,none⟩) hgl').trans f1';have gl:=az hgl' hb2.size;simp only[ak,am]at b0;have HB2:=aa hb2;clear hb2 X2)
 rw[cj];go_wp2_with(go_at_call 52;refine(d2.out w1.heap.size _).mono ?_;rintro e w3⟨rfl,hb3⟩;have HB3:=aa hb3;clear hb3)
 rw[cj];go_wp2_with fail
 go_ret;have hz:=B1.out.size;exact⟨by rfl,((B1.out.trans (hA.out.mono hz)).trans (HB2.out.mono (ba hz hA.out.size))).trans (HB3.out.mono (ba (ba hz hA.out.size) HB2.out.size))⟩
end
section
set_option maxRecDepth 100000
set_option maxHeartbeats 4000000
open Go.RowKit Go.Shelf
theorem ahn(w:World):Calls prog 91 #[.int .i64 2,.int .i64 4] w fun e w'=>e=.returned (.bool true)/\w'=w:=by
 go_enter func91,ntmps91;go_wp2_with fail
 go_ret;exact⟨rfl,rfl⟩
theorem alv(w:World):Calls prog 91 #[.int .i64 1,.int .i64 1] w fun e w'=>e=.returned (.bool true)/\w'=w:=by
 go_enter func91,ntmps91;go_wp2_with fail
 go_ret;exact⟨rfl,rfl⟩
theorem aff(w:World):Calls prog 46 #[.agg #[.int .i64 2,.string ts]] w fun e w'=>e=.returned (.bool true)/\Below w.heap.size w w':=by
 have q1:=aa fun w'=>ahn w'
 have hA:Below w.heap.size w (w.alloc (.cells #[.int .i64 2,.string ts] 60)):=ae.alloc ac _;go_enter func46,ntmps46;go_wp2_with(go_at_call 91;refine(q1.out _).mono ?_;rintro e w1⟨rfl,rfl⟩)
 go_ret;exact⟨rfl,hA⟩
end
section
set_option maxRecDepth 100000
set_option maxHeartbeats 4000000
open Go.RowKit Go.Shelf
theorem aq2(ad:Option Addr)(cap:Nat)(L:Nat->Nat->Bool)(hL:sm (fun j=>fj fu (L j)) 1=false)(w:World)(hR:fm w ad 1 L w.heap.size):
 Calls prog 47 #[.agg #[.int .i64 1,.slice ad 1 cap]] w fun e w'=>e=.returned (.bool true)/\Below w.heap.size w w':=by
 have q1:=aa fun w'=>alv w'
 have hA:Below w.heap.size w (w.alloc (.cells #[.int .i64 1,.slice ad 1 cap] 62)):=ae.alloc ac _;have q2:=aa fun w'(h:fm w' ad 1 L w'.heap.size)=>vi ad 1 cap L (by omega) w' h
 rw[hL]at q2;have HR:=aa ((hR.below hA ac).mono hA.size);have HA:=aa hA;clear hR hA hL;go_enter func47,ntmps47;go_wp2_with(first|(go_at_call 91;refine(q1.out _).mono ?_;rintro e w1⟨rfl,rfl⟩)|(go_at_call 92;refine(q2.out _ HR.out).mono ?_;rintro e w1⟨rfl,hb1⟩))
 go_ret;exact⟨rfl,HA.out.trans (hb1.mono HA.out.size)⟩
end
section
set_option maxRecDepth 100000
set_option maxHeartbeats 4000000
open Go.RowKit Go.Shelf
theorem ai0(b o cap:Nat)(S:Nat->Bool)(hS:fj S (fun _=>true)=false)(w:World)(hb:b<w.heap.size)
 (e0:w.cell? ⟨b,o,none⟩=some (.int .u64 (wd S 0:Nat))) (e1:w.cell? ⟨b,o+1,none⟩=some (.int .u64 (wd S 1:Nat))) (e2:w.cell? ⟨b,o+2,none⟩=some (.int .u64 (wd S 2:Nat))) (e3:w.cell? ⟨b,o+3,none⟩=some (.int .u64 (wd S 3:Nat))):
 Calls prog 50 #[.agg #[.int .i64 1,.slice (some ⟨b,o,none⟩) 1 cap]] w fun e w'=>∃v,e=.returned v/\w'.ownsRow w.heap.size 100 4 v 1 (sw S)/\Below w.heap.size w w':=by
 have hf:=aa fun w'=>tm w'
 have hc:=aa fun w'=>si none 0 0 (fun _=>S) S (by omega) w' (.inl rfl)
 have hA:Below w.heap.size w ((w.alloc (.cells #[.int .i64 1,.slice (some ⟨b,o,none⟩) 1 cap] 62)).alloc (.cells #[.int .u64 (wd S 0:Nat),.int .u64 (wd S 1:Nat),.int .u64 (wd S 2:Nat),.int .u64 (wd S 3:Nat)] 100)):=(ae.alloc ac _).alloc (by simp) _;have hN:=fc.new (w.alloc (.cells #[.int .i64 1,.slice (some ⟨b,o,none⟩) 1 cap] 62)) S;rw[bg]at hN;have HA:=aa hA;have hne:(!fj S (fun _=>true))=true:=by rw[hS];rfl
 clear hA;go_enter func50,ntmps50;go_wp2_with fail
 refine du 2 ?_;rw[cj];go_wp2_with fail
 generalize (w.alloc (.cells #[.int .i64 1,.slice (some ⟨b,o,none⟩) 1 cap] 62)).alloc (.cells #[.int .u64 (wd S 0:Nat),.int .u64 (wd S 1:Nat),.int .u64 (wd S 2:Nat),.int .u64 (wd S 3:Nat)] 100)=W2 at *;obtain⟨⟨d0,d1,d2,d3⟩,-,dl⟩:=hN;clear e0 e1 e2 e3;go_region_held3 (fun w'=>fo W2 w') (first|with_reducible exact fo.start _|with_reducible exact fo.calld (fo.refl _) (by with_reducible assumption)|with_reducible exact fo.call (by with_reducible assumption) (by with_reducible assumption)) (first|(go_at_call 93;refine(hf.out _).mono ?_;rintro e w'⟨rfl,hb'⟩)|(go_at_call 92;refine(hc.out _).mono ?_;rintro e w'⟨rfl,hb'⟩))
 have HO:=aa (show fo W2 w' by with_reducible assumption);have hzw:w.heap.size<=w'.heap.size:=by have:=HO.out.2.2.1;omega
 clear hb';go_wp2_with(at_builtin;refine gj ot rfl _ _ rfl rfl (bj w' w.heap.size 100 4) (sw S) rfl rfl (by simp[Value.oneCell',sw]) (by unfold maxLen;omega) (by omega) hzw ?_;intro v4 w4 hown4 hb4)
 have HOWN:=aa hown4;have HB4:=aa hb4;clear hown4 hb4 dl d0 d1 d2 d3;rw[cj];go_wp2_with fail
 go_ret;exact⟨_,rfl,by simpa using HOWN.out,(HA.out.trans (HO.out.2.2.2.mono HA.out.size)).trans HB4.out⟩
theorem ars(b o cap lb mb fb:Nat)(S:Nat->Bool)(w:World)(hb:b<w.heap.size)
 (e0:w.cell? ⟨b,o,none⟩=some (.int .u64 (wd S 0:Nat))) (e1:w.cell? ⟨b,o+1,none⟩=some (.int .u64 (wd S 1:Nat))) (e2:w.cell? ⟨b,o+2,none⟩=some (.int .u64 (wd S 2:Nat))) (e3:w.cell? ⟨b,o+3,none⟩=some (.int .u64 (wd S 3:Nat)))
 (k0:w.cell? ⟨lb,0,none⟩=some (.int .i64 1)) (kl:lb<w.heap.size) (m0:w.cell? ⟨mb,0,none⟩=some (.int .i64 1)) (m1:w.cell? ⟨mb,1,none⟩=some (.slice (some ⟨b,o,none⟩) 1 cap)) (ml:mb<w.heap.size) (f0:w.cell? ⟨fb,0,none⟩=some (.int .i64 2)) (fl:fb<w.heap.size):
 Calls prog 49 #[cv S,.pointer (some ⟨lb,0,none⟩),.pointer (some ⟨mb,0,none⟩),.pointer (some ⟨fb,0,none⟩)] w fun e w'=>∃g,e=.returned (.tuple #[.slice (some ⟨g,0,none⟩) 1 1,.int .u64 1])/\w.heap.size<=g/\jm w' g 1 (fun _=>1)/\Below w.heap.size w w':=by
 have hmk:∀w,(Instr.makeSlice 42 (.int .i64 1) (.int .i64 1)).run prog w=.ok (.slice (some ⟨w.heap.size,0,none⟩) 1 1) (w.alloc (.cells (madeCells #[.int .u64 0] 1) 46)):=acn 1 (by omega);have hq:fj S S=true:=abm S;have hB3:Below w.heap.size w (((w.alloc (.cells #[.int .u64 (wd S 0:Nat),.int .u64 (wd S 1:Nat),.int .u64 (wd S 2:Nat),.int .u64 (wd S 3:Nat)] 100)).alloc (.cells (madeCells #[.int .u64 0] 1) 46)).alloc (.cells #[.int .u64 (wd S 0:Nat),.int .u64 (wd S 1:Nat),.int .u64 (wd S 2:Nat),.int .u64 (wd S 3:Nat)] 100)):=((ae.alloc ac _).alloc (by simp) _).alloc (by simp;omega) _;have hnew:jm (((w.alloc (.cells #[.int .u64 (wd S 0:Nat),.int .u64 (wd S 1:Nat),.int .u64 (wd S 2:Nat),.int .u64 (wd S 3:Nat)] 100)).alloc (.cells (madeCells #[.int .u64 0] 1) 46)).alloc (.cells #[.int .u64 (wd S 0:Nat),.int .u64 (wd S 1:Nat),.int .u64 (wd S 2:Nat),.int .u64 (wd S 3:Nat)] 100)) (w.heap.size+1) 1 (fun _=>0):=by
  have h:=(jm.new (w.alloc (.cells #[.int .u64 (wd S 0:Nat),.int .u64 (wd S 1:Nat),.int .u64 (wd S 2:Nat),.int .u64 (wd S 3:Nat)] 100)) 1).below ((aw ((w.alloc (.cells #[.int .u64 (wd S 0:Nat),.int .u64 (wd S 1:Nat),.int .u64 (wd S 2:Nat),.int .u64 (wd S 3:Nat)] 100)).alloc (.cells (madeCells #[.int .u64 0] 1) 46)).heap.size ((w.alloc (.cells #[.int .u64 (wd S 0:Nat),.int .u64 (wd S 1:Nat),.int .u64 (wd S 2:Nat),.int .u64 (wd S 3:Nat)] 100)).alloc (.cells (madeCells #[.int .u64 0] 1) 46))).alloc ac (.cells #[.int .u64 (wd S 0:Nat),.int .u64 (wd S 1:Nat),.int .u64 (wd S 2:Nat),.int .u64 (wd S 3:Nat)] 100)) (by simp);rwa[bg]at h
 have HB3:=aa hB3;have HNEW:=aa hnew;clear hB3 hnew;go_enter func49,ntmps49;go_wp2_with fail
 refine du 2 ?_;rw[cj];go_wp2_with fail
 generalize hW3:(((w.alloc (.cells #[.int .u64 (wd S 0:Nat),.int .u64 (wd S 1:Nat),.int .u64 (wd S 2:Nat),.int .u64 (wd S 3:Nat)] 100)).alloc (.cells (madeCells #[.int .u64 0] 1) 46)).alloc (.cells #[.int .u64 (wd S 0:Nat),.int .u64 (wd S 1:Nat),.int .u64 (wd S 2:Nat),.int .u64 (wd S 3:Nat)] 100))=W3 at *;have m0':=(HB3.out.cell (p:=⟨mb,0,none⟩) ml).trans m0;have f0':=(HB3.out.cell (p:=⟨fb,0,none⟩) fl).trans f0;have ml':=az ml HB3.out.size;have fl':=az fl HB3.out.size;have n0:=HNEW.out.cells 0 (by omega);have n1:=HNEW.out.free 0 (by omega);have nl:=HNEW.out.lt;clear hW3 e0 e1 e2 e3 k0 m0 m1 f0 hmk hq;go_region;all_goals(go_wp2_with fail)
 all_goals(rw[cj])
 all_goals(go_wp2_with fail)
 all_goals(go_ret2)
 all_goals exact⟨_,rfl,by omega,((HNEW.out.below ((aw W3.heap.size W3).drew) nl).set 0 (by omega) 1).congr (fun j hj=>by rw[if_pos (by omega)]),(HB3.out.drew).setCell (by show _<=_;simp) _⟩
end
end Go.Proofs.YtjfkmoinldlmaaaGreat
