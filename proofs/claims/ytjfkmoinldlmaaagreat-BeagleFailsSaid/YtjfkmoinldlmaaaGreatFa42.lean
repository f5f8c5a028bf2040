/- The walk of BeagleFails, part 42. Walk of the function that a stream's search makes, in general. The stream's state: its searches, the rows found; what a search's step does to it. -/
import Derived.Test.YtjfkmoinldlmaaaGreatFa41
namespace Go.Proofs.YtjfkmoinldlmaaaGreat
open Go.Proofs.Tryz
section
set_option maxRecDepth 100000
set_option maxHeartbeats 8000000
open Go.RowKit Go.Shelf
theorem sj{w:World}{B FD N0 n:Nat}{cs ds:Array Value}{t:TypeId}{fz fz':Nat×Nat}{v:Value}{xs:List Value}(hB:At w B (.cells cs t fz))(hF:At w FD (.cells ds 24 fz'))(hO:w.ownsRow N0 3 1 v n xs)(h24:t≠24)(h3:t≠3\/B<N0):B∉FD::v.ownBlock.toList:=by
 intro hm;rcases cz.1 hm with rfl|hm
 ·unfold At at hB hF
  rw[hF]at hB;injection hB with e;injection e with e1 e2;exact h24 e2.symm
 ·rcases hO.2 with⟨rfl,_⟩|⟨g,cap,cur,rfl,hbb,hg,_⟩
  ·simp[Value.ownBlock]at hm
  ·simp[Value.ownBlock]at hm
   subst hm;unfold At at hB;rw[hg]at hB;injection hB with e;injection e with e1 e2;rcases h3 with h3|h3
   ·exact h3 e2.symm
   ·omega
theorem kt_fd{w w':World}{FD N0 n:Nat}{ds:Array Value}{ty:TypeId}{fz':Nat×Nat}{v:Value}{xs:List Value}(hF:At w FD (.cells ds 24 fz'))(hO:w.ownsRow N0 3 1 v n xs)(hE:Ex (FD::v.ownBlock.toList) w w')(h24:ty≠24)(h3:ty≠3):Kt ty w w':=
 Kt.ex hE fun x hx cur fz hB=>absurd hx (sj (show At w x (.cells cur ty fz)from hB) hF hO h24 (.inl h3))
theorem Ex.grownK{S:List Nat}{a b c:World}{row:Option Nat}(h:Ex S a b)(hg:b.grownBy c row)(hr:∀g,row=some g->g∈S\/a.heap.size<=g):Ex S a c:=
 ⟨hg.os.trans h.os,hg.tape.trans h.tape,hg.output.trans h.output,ba h.size hg.size,fun i hi hn=>(hg.block i (az hi h.size) (fun e=>(hr i e.symm).elim hn (fun h=>by omega))).trans (h.block i hi hn)⟩
def nv(xs l:List Int)(b next j:Nat):List Int:=xs++((l.take j).map fun x=>(b:Int)+x).filter fun x=>decide ((next:Int)<=x)
theorem ak7(xs l:List Int)(b next:Nat):nv xs l b next 0=xs:=by simp[nv]
theorem aet(xs l:List Int)(b next j:Nat)(x:Int)(hx:l[j]?=some x)(h:(next:Int)<=(b:Int)+x):nv xs l b next (j+1)=nv xs l b next j++[(b:Int)+x]:=by
 unfold nv;rw[List.take_add_one,hx,ep,List.filter_append,<-dc];simp[h]
theorem ysTo_no(xs l:List Int)(b next j:Nat)(x:Int)(hx:l[j]?=some x)(h:¬(next:Int)<=(b:Int)+x):nv xs l b next (j+1)=nv xs l b next j:=by
 unfold nv;rw[List.take_add_one,hx,ep,List.filter_append,<-dc];simp[h]
theorem aon(xs l:List Int)(b next:Nat):nv xs l b next l.length=xs++(l.map fun x=>(b:Int)+x).filter fun x=>decide ((next:Int)<=x):=by unfold nv;rw[dr]
theorem aom(xs l:List Int)(b next j:Nat):(nv xs l b next j).length<=xs.length+j:=by
 unfold nv;rw[bd];have:=d9 (fun x=>decide ((next:Int)<=x)) ((l.take j).map fun x=>(b:Int)+x);rw[List.length_map,List.length_take]at this;omega
structure ClL(w1 w:World)(FD k N0:Nat)(vs:List Value)(v v':Value)(ys:List Int):Prop where
 ex:Ex (FD::v.ownBlock.toList) w1 w
 fd:At w FD (.cells (vs.set k v').toArray 24)
 own:w.ownsRow N0 3 1 v' ys.length (ga ys)
 blk:v'.ownBlock=v.ownBlock\/∃g,v'.ownBlock=some g/\w1.heap.size<=g
def asu(FD nx k N0:Nat)(vs:List Value)(v:Value)(ys:List Int)(next:Nat)(w:World)(e:Ending)(w':World):Prop:=
 ∃r v',e=.returned r/\At w' FD (.cells (vs.set k v').toArray 24)/\At w' nx (.cells #[.int .i64 (next:Nat)] 3)/\w'.ownsRow N0 3 1 v' ys.length (ga ys)/\Ex (FD::nx::v.ownBlock.toList) w w'/\(v'.ownBlock=v.ownBlock\/∃g,v'.ownBlock=some g/\w.heap.size<=g)
theorem agl(S k own sb nx kb FD cfd N N0 cap:Nat)(ad:Option Addr)(p:List (Nat->Bool)×Nat)(next b:Nat)(hb:b<=1000)(hnx:next<=2000)(seen rounds F sz limit longest en:Int)(q sr:Value)(held t:ByteArray)(ht:t.size<=1000)
 (hr:fv p.1.length (gc p.1) (p.2:Nat)=true) (vs:List Value) (hvl:vs.length=N) (hN:N<=1000) (hk:k<N) (v:Value) (hv:vs[k]?=some v) (xs:List Int) (hxl:xs.length<=2000) (w:World) (hS:At w S (zk seen rounds q F sz limit longest held en sr (.slice (some ⟨FD,0,none⟩) N cfd)))
 (hF:At w FD (.cells vs.toArray 24)) (hC:SrK w S k own sb nx kb ad cap p next) (hO:w.ownsRow N0 3 1 v xs.length (ga xs)) (hnx0:nx<N0) (hkb0:kb<N0) (hN0:N0<=w.heap.size):
 Calls prog 162 #[.int .i64 (b:Nat),.string t,.pointer (some ⟨own,0,none⟩),.pointer (some ⟨sb,0,none⟩),.pointer (some ⟨nx,0,none⟩),.pointer (some ⟨kb,0,none⟩)] w
  (asu FD nx k N0 vs v (xs++((p4 t p.1.length (gc p.1) (p.2:Nat)).map fun x=>(b:Int)+x).filter fun x=>decide ((next:Int)<=x)) (nxt next (b+t.size) p.1.length) w):=by
 have hn64:p.1.length<=64/\1<=p.1.length:=by
  unfold fv at hr;simp only[ce,cg]at hr;exact⟨hr.2.1,hr.1⟩
 have h1:=aa fun w'(h:ft w' 100 ad p.1.length (ji p.1))=>leaf_ev ad p.1.length cap (p.2:Nat) F sz (gc p.1) t (by omega) (by omega) hr w' h.rowC
 have hoc:=aqq t p.1.length (gc p.1) (p.2:Nat);have hol:(p4 t p.1.length (gc p.1) (p.2:Nat)).length<=1001:=ba (kr hoc.1 hoc.2) (by omega);have hox:∀x∈p4 t p.1.length (gc p.1) (p.2:Nat),0<=x/\x<=1001:=fun x hx=>⟨hoc.1.2 x hx,by have:=hoc.2 x hx;omega⟩
 have HOX:=aa hox;generalize p4 t p.1.length (gc p.1) (p.2:Nat)=l at *;clear hoc hr hox;have HR:=aa hC.row;have o0:=hC.own_.cell 0;have o1:=hC.own_.cell 1;have s0:=hC.sb_.cell 0;have st3:=hS.cell 3;have st4:=hS.cell 4;have ol:=hC.own_.lt;have sl:=hC.sb_.lt;have Sl:=hS.lt;have HS:=aa hS;have HF:=aa hF;have HC:=aa hC;have HO:=aa hO;have HK:=aa hv;have HN0:=aa hN0;have hbi:(b:Int)<=1000:=by omega
 have hni:(next:Int)<=2000:=by omega
 have hti:(t.size:Int)<=1000:=by omega
 have hki:(k:Int)<N:=by omega
 have hNi:(N:Int)<=1000:=by omega
 have hpi:(p.1.length:Int)<=64:=by omega
 simp only[ak,am,au]at o0 o1 s0 st3 st4;clear hS hF hC hO hv hN0;go_enter func162,ntmps162;go_wp2_with fail
 go_region_held3 (fun w'=>fo w w') (first|with_reducible assumption|with_reducible exact fo.start _|with_reducible exact fo.calld (fo.refl _) (by with_reducible assumption)|with_reducible exact fo.call (by with_reducible assumption) (by with_reducible assumption)) (first|(go_at_call 163;refine(h1.out w.drew (HR.out.keep (Kt.below (aw _ w).drew))).mono ?_;rintro e w1⟨v1,z1,rfl,ho1,hb1⟩;obtain⟨af,cf,rfl⟩:=ey ho1;have O1:=fo.calld (fo.refl w) hb1;have H1:=aa ho1;have HB1:=aa hb1;clear ho1))
 go_wp2_with fail
 have hb':Below w.heap.size w w1:=O1.2.2.2;have HBw:=aa hb';have HF1:=aa (HF.out.below hb' HF.out.lt);have HS1:=aa (HS.out.below hb' HS.out.lt);have HC1:=aa (HC.out.below hb');have HO1:=aa (fe HO.out hb');have HT1:=aa (ft.own H1.out);have HG:Hid (∀a,af=some a->w.heap.size<=a.block):=aa fun a ha=>aqj H1.out a ha
 have hsz1:w.heap.size<=w1.heap.size:=hb'.size;clear hb' hb1 O1 o0 o1 s0 st3 st4 ol sl Sl h1;have EE:Hid (∀w',Ex (FD::v.ownBlock.toList) w1 w'->At w' S (zk seen rounds q F sz limit longest held en sr (.slice (some ⟨FD,0,none⟩) N cfd))/\SrK w' S k own sb nx kb ad cap p next):=aa fun w' hE=>
  ⟨HS1.out.ex hE (sj HS1.out HF1.out HO1.out (by decide) (.inl (by decide))),HC1.out.ex hE ⟨sj HC1.out.own_ HF1.out HO1.out (by decide) (.inl (by decide)),sj HC1.out.sb_ HF1.out HO1.out (by decide) (.inl (by decide)),sj HC1.out.nx_ HF1.out HO1.out (by decide) (.inr hnx0),sj HC1.out.kb_ HF1.out HO1.out (by decide) (.inr hkb0)⟩ (kt_fd HF1.out HO1.out hE (by decide) (by decide))⟩
 have FF:Hid (∀w'(j:Nat)(x:Int),Ex (FD::v.ownBlock.toList) w1 w'->l[j]?=some x->∃g o,af=some ⟨g,o,none⟩/\g<w'.heap.size/\w'.cell? ⟨g,o+j,none⟩=some (.int .i64 x)):=aa fun w' j x hE hx=>by
  have hlt:=(cy.1 hx).1;obtain⟨g,o,ha,hg,hc⟩:=HT1.out.cell (by omega);refine⟨g,o,ha,az hg hE.size,?_⟩;have hgw:=HG.out _ ha;have hni:g∉FD::v.ownBlock.toList:=by
   intro hm;rcases cz.1 hm with rfl|hm
   ·have:=HF.out.lt;simp only at hgw;omega
   ·have:=(HO.out.lt g (by simpa using hm)).2;simp only at hgw;omega
  rw[hE.cell hg hni];refine hc j _ ?_;simp[ga,hx]
 have hL0:ClL w1 w1 FD k N0 vs v v (nv xs l b next 0):=⟨Ex.refl _ _,by
  have e:vs.set k v=vs:=by
   have:=HK.out
   refine List.ext_getElem? fun i=>?_
   rw[List.getElem?_set]
   split
   ·next h=>subst h;rw[this];simp[show k<vs.length by omega]
   ·rfl
  rw[e]
  exact HF1.out,by rw[ak7];exact HO1.out,.inl rfl⟩
 have HL0:=aa hL0;clear hL0;have hlI:(l.length:Int)<=1001:=by omega
 go_loopw[26] (fun i wr=>∃(j:Nat)(v':Value),j<=l.length/\i=.int .i64 (j:Nat)/\ClL w1 wr FD k N0 vs v v' (nv xs l b next j)) (fun i _=>l.length-(intOf i).toNat)
 case atStart=>exact⟨0,v,cx _,rfl,HL0.out⟩
 case round=>
  clear HL0;obtain⟨j,v',hj,rfl,hL⟩:=hrel;have HL:=aa hL;clear hL;obtain⟨hs,hc⟩:=EE.out wr HL.out.ex;have b1:=hc.sb_.cell 0;have b2:=hs.cell 10;have b3:=hc.nx_.cell 0;have b4:=hc.kb_.cell 0;simp only[ak,am,au]at b1 b2 b3 b4;by_cases hlt:j<l.length
  ·obtain⟨x,hx⟩:∃x,l[j]?=some x:=⟨_,bs hlt⟩
   have hlti:(j:Int)<l.length:=by omega
   have hj0:(0:Int)<=j:=by omega
   have hxb:=HOX.out x (dm hx);obtain⟨g,of,rfl,hgl,hgc⟩:=FF.out wr j x HL.out.ex hx;have hx0:=hxb.1;have hx1:=hxb.2;have HX:=aa hx;obtain⟨D,hD⟩:∃D,(b:Int)+x=D:=⟨_,rfl⟩;have hD0:0<=D:=by omega
   have hD1:D<=2001:=by omega
   have hDw:IntKind.i64.wrap D=D:=by rw[ci];omega
   have HD:=aa hD;clear hx hxb hs hc;by_cases hge:(next:Int)<=D
   ·have hfc:=HL.out.fd.cell k
    have hff:=HL.out.fd.free k;have hfl:=HL.out.fd.lt;have hsk:(vs.set k v')[k]?=some v':=by rw[List.getElem?_set];simp[show k<vs.length by omega]
    rw[ak,hsk]at hfc;clear hsk;go_wp2_with fail
    have EX1:Hid (Ex (FD::v.ownBlock.toList) w1 (wr.drew.alloc (.cells #[.int .i64 D] 3))):=aa (HL.out.ex.drew.alloc _);have dA:wr.drew.cell? ⟨sb,0,none⟩=some (.pointer (some ⟨S,0,none⟩))/\wr.drew.cell? ⟨S,10,none⟩=some (.slice (some ⟨FD,0,none⟩) N cfd)/\wr.drew.cell? ⟨kb,0,none⟩=some (.int .i64 (k:Nat)):=⟨b1,b2,b4⟩;have DD:Hid (∀w',Ex (FD::v.ownBlock.toList) w1 w'->w'.cell? ⟨sb,0,none⟩=some (.pointer (some ⟨S,0,none⟩))/\w'.cell? ⟨S,10,none⟩=some (.slice (some ⟨FD,0,none⟩) N cfd)/\w'.cell? ⟨kb,0,none⟩=some (.int .i64 (k:Nat))):=aa fun w' hE=>by
     obtain⟨hs,hc⟩:=EE.out w' hE;exact⟨hc.sb_.cell 0,hs.cell 10,hc.kb_.cell 0⟩
    have HFA:=aa (HL.out.fd.alloc (.cells #[.int .i64 D] 3));have cA:wr.drew.cell? ⟨FD,k,none⟩=some v':=hfc;have cB:(wr.drew.alloc (.cells #[.int .i64 D] 3)).cell? ⟨FD,k,none⟩=some v':=by
     have:=HFA.out.cell k;rw[ak]at this;refine Eq.trans ?_ (this.trans (by rw[List.getElem?_set];simp[show k<vs.length by omega]));rfl
    have cC:(wr.alloc (.cells #[.int .i64 D] 3)).drew.cell? ⟨FD,k,none⟩=some v':=cB;have HOA:=aa (show(wr.drew.alloc (.cells #[.int .i64 D] 3)).ownsRow N0 3 1 v' (nv xs l b next j).length (ga (nv xs l b next j))from(HL.out.own.drew).alloc _);have HNw:Hid (ag0 (wr.drew.alloc (.cells #[.int .i64 D] 3)) (some ⟨wr.drew.heap.size,0,none⟩) 1 [.int .i64 D]):=aa (.inr ⟨wr.drew.heap.size,0,rfl,fun i u hi=>by
     cases i with
     |zero=>simp at hi;subst hi;simp[go_sem]
     |succ i=>simp at hi⟩)
    have hyl:=aom xs l b next j
    have HZ:Hid (N0<=(wr.drew.alloc (.cells #[.int .i64 D] 3)).heap.size):=aa (ba HN0.out (ba hsz1 (by have:=HL.out.ex.size;refine ba this ?_;show _<=(wr.alloc (.cells #[.int .i64 D] 3)).heap.size;rw[bg];exact dt _)));clear hfc;refine wp_region_held_drew (S:=fun w'=>w'.cell? ⟨sb,0,none⟩=some (.pointer (some ⟨S,0,none⟩))/\w'.cell? ⟨S,10,none⟩=some (.slice (some ⟨FD,0,none⟩) N cfd)/\w'.cell? ⟨kb,0,none⟩=some (.int .i64 (k:Nat))) (by kernel_rfl) dA (fun hS=>?_);refine tk 0 35 (.pointer (some ⟨S,0,none⟩)) hS ?_;refine tk 1 36 (.pointer (some ⟨S,0,none⟩)) hS ?_;refine tk 2 37 (.pointer (some ⟨S,10,none⟩)) hS ?_;refine tk 3 38 (.slice (some ⟨FD,0,none⟩) N cfd) hS ?_;refine tk 4 39 (.int .i64 (k:Nat)) hS ?_;refine tk 5 40 (.pointer (some ⟨S,0,none⟩)) hS ?_;refine tk 6 41 (.pointer (some ⟨S,0,none⟩)) hS ?_;refine tk 7 42 (.pointer (some ⟨S,10,none⟩)) hS ?_;refine tk 8 43 (.slice (some ⟨FD,0,none⟩) N cfd) hS ?_;refine tk 9 44 (.int .i64 (k:Nat)) hS ?_;refine tk 10 45 (.pointer (some ⟨FD,k,none⟩)) hS ?_;refine tk 12 47 (.int .i64 (b:Nat)) hS ?_;refine tk 13 48 (.int .i64 x) hS ?_;refine tk 14 49 (.int .i64 D) hS ?_;refine wpAnyH_ready (rs:=[11,15]) (by kernel_rfl) (by simp) ?_;refine AllReadyH.cons rfl (fun Kc hK=>?_) (AllReadyH.cons rfl (fun Kc hK=>?_) AllReadyH.nil)
    ·go_simp
     refine hK.out _ _ hS (fun hH=>?_);try simp only[Act.put,ag,ai,aj]
     clear hK Kc;refine mw 15 (fun Kc hK=>?_);go_simp;refine hK.out _ _ (DD.out _ EX1.out) (fun hH=>?_);try simp only[Act.put,ag,ai,aj]
     clear hK Kc;refine mw 16 (o:={dst:=some 51,op:=.call {callee:=.builtin .append,args:=#[.tmp 46,.tmp 50],argTypes:=#[24,24]},type:=24,pos:= "stream.go:61",after:=_,guard:=none}) (fun Kc hK=>?_);refine ij iv (by with_reducible rfl) (.tmp 46) (.tmp 50) (by with_reducible rfl) (by rfl) HOA.out (by rfl) HNw.out (by rfl) (by simp[Value.oneCell']) (by unfold maxLen;omega) (by omega) HZ.out ?_;intro v2 w2 hown2 hb2 hk2 hg2 hv2;obtain⟨a2,c2,rfl⟩:=ey hown2;have EX2:Hid (Ex (FD::v.ownBlock.toList) w1 w2):=aa (EX1.out.grownK hg2 fun g hg=>by
      rcases HL.out.blk with e|⟨g',e,hg'⟩
      ·left;rw[e]at hg;rw[hg];simp
      ·right;rw[e]at hg;cases hg;exact hg')
     have HF2:Hid (At w2 FD (.cells (vs.set k v').toArray 24)):=aa (At.kept (w:=wr.drew.alloc (.cells #[.int .i64 D] 3)) HFA.out hg2 (fun e=>by
      have:=HL.out.own
      rcases this.2 with⟨e2,_⟩|⟨g',cap',cur,e2,_,hh,_⟩
      ·rw[e2]at e;simp[Value.ownBlock]at e
      ·rw[e2]at e
       simp only[Value.ownBlock]at e
       cases e
       have h2:wr.heap[FD]?=_:=HL.out.fd
       rw[hh]at h2
       injection h2 with h2
       injection h2 with h3 h4
       exact absurd h4 (by decide)))
     have hv3:(Value.slice a2 ((nv xs l b next j).length+1) c2).ownBlock=v.ownBlock\/∃g,(Value.slice a2 ((nv xs l b next j).length+1) c2).ownBlock=some g/\w1.heap.size<=g:=by
      rcases hv2 with e|e
      ·rw[e];exact HL.out.blk
      ·exact .inr ⟨_,e,ba (HL.out.ex.size) (by show _<=(wr.alloc (.cells #[.int .i64 D] 3)).heap.size;rw[bg];exact dt _)⟩
     have HV3:=aa hv3;have hf2:=HF2.out.free k;have hl2:=HF2.out.lt;have hc2:=HF2.out.cell k;rw[ak,List.getElem?_set_self (by omega)]at hc2;have HO2:=aa hown2;clear hown2 hb2 hk2 hg2 hv2 hv3;have EX3:Hid (Ex (FD::v.ownBlock.toList) w1 (w2.setCell ⟨FD,k,none⟩ (.slice a2 ((nv xs l b next j).length+1) c2))):=aa (EX2.out.set FD k _ (by simp));refine hK.out _ _ (DD.out _ EX2.out) (fun hH=>?_);try simp only[Act.put,ag,ai,aj]
     clear hK Kc;refine tk 17 52 (.pointer (some ⟨FD,k,none⟩)) hH ?_;refine mw 18 (fun Kc hK=>?_);go_simp;refine hK.out _ _ (DD.out _ EX3.out) (fun hH=>?_);try simp only[Act.put,ag,ai,aj]
     clear hK Kc;refine wpAnyH_done (by kernel_rfl) ?_ _;clear dA cA cB cC hS hf2 hl2 hc2;go_wp2_with fail
     go_roundw
     case rel=>
      refine⟨j+1,.slice a2 ((nv xs l b next j).length+1) c2,by omega,by go_num,EX3.out,?_,?_,HV3.out⟩
      ·have:=HF2.out.set k (.slice a2 ((nv xs l b next j).length+1) c2)
       rwa[ag,List.set_set]at this
      ·rw[aet xs l b next j x HX.out (by rw[HD.out];exact hge),HD.out,bd,gz]
       refine nk HO2.out ((Ex.refl [FD] w2).set FD k _ (by simp)) fun y hy cur h=>?_
       rw[cd.1 hy]at h;have h2:w2.heap[FD]?=_:=HF2.out;rw[h2]at h;injection h with h;injection h with h3 h4;exact absurd h4 (by decide)
     case measure=>simp[intOf];omega
    ·go_simp
     refine hK.out _ _ (DD.out _ EX1.out) (fun hH=>?_);try simp only[Act.put,ag,ai,aj]
     clear hK Kc;refine mw 11 (fun Kc hK=>?_);go_simp;refine hK.out _ _ (DD.out _ EX1.out) (fun hH=>?_);try simp only[Act.put,ag,ai,aj]
     clear hK Kc;refine mw 16 (o:={dst:=some 51,op:=.call {callee:=.builtin .append,args:=#[.tmp 46,.tmp 50],argTypes:=#[24,24]},type:=24,pos:= "stream.go:61",after:=_,guard:=none}) (fun Kc hK=>?_);refine ij iv (by with_reducible rfl) (.tmp 46) (.tmp 50) (by with_reducible rfl) (by rfl) HOA.out (by rfl) HNw.out (by rfl) (by simp[Value.oneCell']) (by unfold maxLen;omega) (by omega) HZ.out ?_;intro v2 w2 hown2 hb2 hk2 hg2 hv2;obtain⟨a2,c2,rfl⟩:=ey hown2;have EX2:Hid (Ex (FD::v.ownBlock.toList) w1 w2):=aa (EX1.out.grownK hg2 fun g hg=>by
      rcases HL.out.blk with e|⟨g',e,hg'⟩
      ·left;rw[e]at hg;rw[hg];simp
      ·right;rw[e]at hg;cases hg;exact hg')
     have HF2:Hid (At w2 FD (.cells (vs.set k v').toArray 24)):=aa (At.kept (w:=wr.drew.alloc (.cells #[.int .i64 D] 3)) HFA.out hg2 (fun e=>by
      have:=HL.out.own
      rcases this.2 with⟨e2,_⟩|⟨g',cap',cur,e2,_,hh,_⟩
      ·rw[e2]at e;simp[Value.ownBlock]at e
      ·rw[e2]at e
       simp only[Value.ownBlock]at e
       cases e
       have h2:wr.heap[FD]?=_:=HL.out.fd
       rw[hh]at h2
       injection h2 with h2
       injection h2 with h3 h4
       exact absurd h4 (by decide)))
     have hv3:(Value.slice a2 ((nv xs l b next j).length+1) c2).ownBlock=v.ownBlock\/∃g,(Value.slice a2 ((nv xs l b next j).length+1) c2).ownBlock=some g/\w1.heap.size<=g:=by
      rcases hv2 with e|e
      ·rw[e];exact HL.out.blk
      ·exact .inr ⟨_,e,ba (HL.out.ex.size) (by show _<=(wr.alloc (.cells #[.int .i64 D] 3)).heap.size;rw[bg];exact dt _)⟩
     have HV3:=aa hv3;have hf2:=HF2.out.free k;have hl2:=HF2.out.lt;have hc2:=HF2.out.cell k;rw[ak,List.getElem?_set_self (by omega)]at hc2;have HO2:=aa hown2;clear hown2 hb2 hk2 hg2 hv2 hv3;have EX3:Hid (Ex (FD::v.ownBlock.toList) w1 (w2.setCell ⟨FD,k,none⟩ (.slice a2 ((nv xs l b next j).length+1) c2))):=aa (EX2.out.set FD k _ (by simp));refine hK.out _ _ (DD.out _ EX2.out) (fun hH=>?_);try simp only[Act.put,ag,ai,aj]
     clear hK Kc;refine tk 17 52 (.pointer (some ⟨FD,k,none⟩)) hH ?_;refine mw 18 (fun Kc hK=>?_);go_simp;refine hK.out _ _ (DD.out _ EX3.out) (fun hH=>?_);try simp only[Act.put,ag,ai,aj]
     clear hK Kc;refine wpAnyH_done (by kernel_rfl) ?_ _;clear dA cA cB cC hS hf2 hl2 hc2;go_wp2_with fail
     go_roundw
     case rel=>
      refine⟨j+1,.slice a2 ((nv xs l b next j).length+1) c2,by omega,by go_num,EX3.out,?_,?_,HV3.out⟩
      ·have:=HF2.out.set k (.slice a2 ((nv xs l b next j).length+1) c2)
       rwa[ag,List.set_set]at this
      ·rw[aet xs l b next j x HX.out (by rw[HD.out];exact hge),HD.out,bd,gz]
       refine nk HO2.out ((Ex.refl [FD] w2).set FD k _ (by simp)) fun y hy cur h=>?_
       rw[cd.1 hy]at h;have h2:w2.heap[FD]?=_:=HF2.out;rw[h2]at h;injection h with h;injection h with h3 h4;exact absurd h4 (by decide)
     case measure=>simp[intOf];omega
   ·go_wp2_with fail
    go_roundw
    case rel=>exact⟨j+1,v',by omega,by go_num,HL.out.ex,HL.out.fd,by rw[ysTo_no xs l b next j x HX.out (by rw[HD.out];exact hge)];exact HL.out.own,HL.out.blk⟩
    case measure=>simp[intOf];omega
  ·obtain rfl:j=l.length:=by omega
   have o0:=hc.own_.cell 0;have fn:=hc.nx_.free 0;have ln:=hc.nx_.lt;simp only[ak,am]at o0;have HSx:=aa hs;have HCx:=aa hc;clear hs hc;obtain⟨M,hM⟩:∃M:Int,(b:Int)+t.size-p.1.length+1=M:=⟨_,rfl⟩;obtain⟨X,hX⟩:∃X:Int,max (next:Int) M=X:=⟨_,rfl⟩;have hXn:X=((nxt next (b+t.size) p.1.length:Nat):Int):=by unfold nxt;omega
   go_wp2_with fail
   have hnF:nx≠FD:=fun e=>by
    have h1:=HCx.out.nx_;have h2:=HL.out.fd;subst e;unfold At at h1 h2;rw[h1]at h2;injection h2 with h2;injection h2 with h3 h4;exact absurd h4 (by decide)
   rw[<-aon];refine⟨rfl,.tuple #[],by first|rfl|simp[results,results162,go_sem],_,v',rfl,HL.out.fd.ex ((Ex.refl [nx] wr).set nx 0 _ (by simp)) (by simp;exact fun e=>hnF e.symm),?_,ownsRow_setCell_below HL.out.own (a:=⟨nx,0,none⟩) hnx0 _,?_,?_⟩
   ·have:=HCx.out.nx_.set 0 (.int .i64 X)
    rw[hXn]at this;exact this
   ·exact((((Ex.of (S:=[]) HBw.out).trans HL.out.ex).mono (by intro x hx;left;rcases cz.1 hx with h|h;exact h▸dp;exact db _ (db _ h))).set nx 0 _ (by simp))
   ·rcases HL.out.blk with e|⟨g,e,hg⟩
    ·exact .inl e
    ·exact .inr ⟨g,e,ba hsz1 hg⟩
end
section
open Go.RowKit Go.Shelf
structure Sp where
 own:Nat
 sb:Nat
 nx:Nat
 kb:Nat
 ad:Option Addr
 cap:Nat
def Sp.fn(s:Sp):Value:=s7 s.own s.sb s.nx s.kb
structure SrI(w:World)(S N0:Nat)(Ls:List (List (Nat->Bool)×Nat))(sps:List Sp)(ν:Nat->Nat):Prop where
 len:sps.length<=Ls.length
 one:∀(k:Nat)p(s:Sp),Ls[k]?=some p->sps[k]?=some s->SrK w S k s.own s.sb s.nx s.kb s.ad s.cap p (ν k)/\s.nx≠s.kb/\s.nx<N0/\s.kb<N0
 dis:∀(i j:Nat)(s t:Sp),i≠j->sps[i]?=some s->sps[j]?=some t->s.nx≠t.nx/\s.nx≠t.kb
structure FdI(w:World)(FD N0 N:Nat)(ρ:Nat->List Int)(vs:List Value):Prop where
 at_:At w FD (.cells vs.toArray 24)
 len:vs.length=N
 own:∀(k:Nat)(v:Value),vs[k]?=some v->w.ownsRow N0 3 1 v (ρ k).length (ga (ρ k))
 dis:∀(i j:Nat)(u v:Value),i≠j->vs[i]?=some u->vs[j]?=some v->u.ownBlock=none\/u.ownBlock≠v.ownBlock
structure ExP(P:Nat->Prop)(w w':World):Prop where
 os:w'.os=w.os
 tape:w'.tape=w.tape
 output:w'.output=w.output
 size:w.heap.size<=w'.heap.size
 block:∀i,i<w.heap.size->¬P i->w'.heap[i]?=w.heap[i]?
theorem ExP.refl(P:Nat->Prop)(w:World):ExP P w w:=⟨rfl,rfl,rfl,ac,fun _ _ _=>rfl⟩
theorem ExP.trans{P:Nat->Prop}{a b c:World}(h:ExP P a b)(k:ExP P b c):ExP P a c:=
 ⟨k.os.trans h.os,k.tape.trans h.tape,k.output.trans h.output,ba h.size k.size,fun i hi hn=>(k.block i (az hi h.size) hn).trans (h.block i hi hn)⟩
theorem ExP.of{P:Nat->Prop}{S:List Nat}{w w':World}(h:Ex S w w')(hs:∀x∈S,P x):ExP P w w':=
 ⟨h.os,h.tape,h.output,h.size,fun i hi hn=>h.block i hi fun hm=>hn (hs i hm)⟩
theorem ExP.below{P:Nat->Prop}{w w':World}{m:Nat}(h:ExP P w w')(hm:m<=w.heap.size)(hs:∀i,P i->m<=i):Below m w w':=
 ⟨h.os,h.tape,h.output,h.size,fun i hi=>h.block i (by omega) (fun e=>by have:=hs i e;omega)⟩
theorem FdI.of(w:World)(FD N0 N:Nat)(h:At w FD (.cells (List.replicate N (Value.slice none 0 0)).toArray 24)):FdI w FD N0 N (fun _=>[]) (List.replicate N (.slice none 0 0)):=by
 refine⟨h,by simp,fun k v hv=>?_,fun i j u v _ hu _=>?_⟩
 ·rw[List.getElem?_replicate]at hv
  split at hv
  ·cases hv
   exact bj _ _ _ _
  ·cases hv
 ·rw[List.getElem?_replicate]at hu
  split at hu
  ·cases hu
   exact .inl rfl
  ·cases hu
theorem SrI.below{w w':World}{S N0 N0':Nat}{Ls:List (List (Nat->Bool)×Nat)}{sps:List Sp}{ν:Nat->Nat}(h:SrI w S N0 Ls sps ν)(hb:Below w.heap.size w w')(hN:N0<=N0'):SrI w' S N0' Ls sps ν:=
 ⟨h.len,fun k p s hp hs=>by
  obtain⟨h1,h2,h3,h4⟩:=h.one k p s hp hs
  exact⟨h1.below hb,h2,by omega,by omega⟩,h.dis⟩
theorem FdI.below{w w':World}{FD N0 N:Nat}{ρ:Nat->List Int}{vs:List Value}(h:FdI w FD N0 N ρ vs)(hb:Below w.heap.size w w'):FdI w' FD N0 N ρ vs:=
 ⟨h.at_.below hb h.at_.lt,h.len,fun k v hv=>fe (h.own k v hv) hb,h.dis⟩
theorem SrI.ex{w w':World}{S N0:Nat}{Ls:List (List (Nat->Bool)×Nat)}{sps:List Sp}{ν:Nat->Nat}{C:Nat}{cs:Array Value}{t:TypeId}{fz:Nat×Nat}(h:SrI w S N0 Ls sps ν)(hb:Ex [C] w w')(hC:At w C (.cells cs t fz))(h1:t≠52:=by decide)(h2:t≠72:=by decide)(h3:t≠3:=by decide)(h4:t≠100:=by decide):SrI w' S N0 Ls sps ν:=
 ⟨h.len,fun k p s hp hs=>by
  obtain⟨g1,g2,g3,g4⟩:=h.one k p s hp hs
  have ne:∀{B:Nat}{ds:Array Value}{t':TypeId}{fz':Nat×Nat},At w B (.cells ds t' fz')->t≠t'->B∉[C]:=fun hB hne hm=>by
   rw[cd.1 hm]at hB
   unfold At at hB hC
   rw[hC]at hB
   injection hB with e
   injection e with e1 e2
   exact hne e2
  exact⟨g1.ex hb ⟨ne g1.own_ h1,ne g1.sb_ h2,ne g1.nx_ h3,ne g1.kb_ h3⟩ (Kt.at1 hb hC h4),g2,g3,g4⟩,h.dis⟩
theorem FdI.ex{w w':World}{FD N0 N:Nat}{ρ:Nat->List Int}{vs:List Value}{C:Nat}{cs:Array Value}{t:TypeId}{fz:Nat×Nat}(h:FdI w FD N0 N ρ vs)(hb:Ex [C] w w')(hC:At w C (.cells cs t fz))(h1:t≠24:=by decide)(h2:t≠3:=by decide):FdI w' FD N0 N ρ vs:=
 ⟨h.at_.ex hb (fun hm=>by
  have hB:=h.at_
  rw[cd.1 hm]at hB
  unfold At at hB hC
  rw[hC]at hB
  injection hB with e
  injection e with e1 e2
  exact h1 e2),h.len,fun k v hv=>nk (h.own k v hv) hb (fun x hx cur e=>by
  rw[cd.1 hx]at e
  unfold At at hC
  rw[hC]at e
  injection e with e
  injection e with e1 e2
  exact h2 e2),h.dis⟩
theorem kt_cl{w w':World}{FD N0 n nx:Nat}{ds es:Array Value}{ty:TypeId}{fz fz':Nat×Nat}{v:Value}{xs:List Value}(hF:At w FD (.cells ds 24 fz))(hX:At w nx (.cells es 3 fz'))(hO:w.ownsRow N0 3 1 v n xs)(hE:Ex (FD::nx::v.ownBlock.toList) w w')(h24:ty≠24)(h3:ty≠3):Kt ty w w':=
 Kt.ex hE fun x hx cur fz hB=>by
  rcases cz.1 hx with rfl|hx
  ·exact sj (show At w x (.cells cur ty fz)from hB) hF hO h24 (.inl h3) dp
  ·rcases cz.1 hx with rfl|hx
   ·unfold At at hX
    rw[hX]at hB;injection hB with e;injection e with e1 e2;exact h3 e2.symm
   ·exact sj (show At w x (.cells cur ty fz)from hB) hF hO h24 (.inl h3) (db _ hx)
theorem ae7{w w':World}{S FD N0 k next':Nat}{Ls:List (List (Nat->Bool)×Nat)}{sps:List Sp}{ν:Nat->Nat}{ρ:Nat->List Int}{vs:List Value}{s:Sp}{v v':Value}{ys:List Int}(hS:SrI w S N0 Ls sps ν)(hF:FdI w FD N0 Ls.length ρ vs)
 (hs:sps[k]?=some s) (hv:vs[k]?=some v) (hf':At w' FD (.cells (vs.set k v').toArray 24)) (hx':At w' s.nx (.cells #[.int .i64 (next':Nat)] 3)) (ho':w'.ownsRow N0 3 1 v' ys.length (ga ys)) (hE:Ex (FD::s.nx::v.ownBlock.toList) w w')
 (hB:v'.ownBlock=v.ownBlock\/∃g,v'.ownBlock=some g/\w.heap.size<=g):
 SrI w' S N0 Ls sps (fun i=>if i=k then next' else ν i)/\FdI w' FD N0 Ls.length (fun i=>if i=k then ys else ρ i) (vs.set k v')/\(∀ty,ty≠24->ty≠3->Kt ty w w')/\ExP (fun i=>i=FD\/(∃s∈sps,i=s.nx)\/N0<=i) w w':=by
 have hkl:k<sps.length:=(cy.1 hs).1;have hkv:k<vs.length:=(cy.1 hv).1;obtain⟨p,hp⟩:∃p,Ls[k]?=some p:=⟨_,bs (az hkl hS.len)⟩;obtain⟨g1,g2,g3,g4⟩:=hS.one k p s hp hs;have hO:=hF.own k v hv;have hK:∀ty,ty≠24->ty≠3->Kt ty w w':=fun ty h24 h3=>kt_cl hF.at_ g1.nx_ hO hE h24 h3
 have h3n:∀{B:Nat}{ds:Array Value}{fz:Nat×Nat},At w B (.cells ds 3 fz)->B≠s.nx->B<N0->B∉FD::s.nx::v.ownBlock.toList:=fun hB hn hlt hm=>by
  have:=sj hB hF.at_ hO (by decide) (.inr hlt);simp only[cz]at hm this;rcases hm with h|h|h
  ·exact this (.inl h)
  ·exact hn h
  ·exact this (.inr h)
 refine⟨⟨hS.len,fun i q t hq ht=>?_,hS.dis⟩,⟨hf',by simp[hF.len],fun i u hu=>?_,fun i j u z hij hu hz=>?_⟩,hK,ExP.of hE fun x hx=>?_⟩
 ·obtain⟨i1,i2,i3,i4⟩:=hS.one i q t hq ht
  by_cases hik:i=k
  ·subst hik
   rw[hs]at ht;cases ht;rw[hp]at hq;cases hq;refine⟨⟨hK 52 (by decide) (by decide) _ _ _ i1.own_,hK 72 (by decide) (by decide) _ _ _ i1.sb_,by rw[if_pos rfl];exact hx',i1.kb_.ex hE (h3n i1.kb_ (fun e=>i2 e.symm) i4),i1.row.keep (hK 100 (by decide) (by decide))⟩,i2,i3,i4⟩
  ·have d1:=hS.dis i k t s hik ht hs
   have d2:=hS.dis k i s t (fun e=>hik e.symm) hs ht;refine⟨⟨hK 52 (by decide) (by decide) _ _ _ i1.own_,hK 72 (by decide) (by decide) _ _ _ i1.sb_,by rw[if_neg hik];exact i1.nx_.ex hE (h3n i1.nx_ d1.1 i3),i1.kb_.ex hE (h3n i1.kb_ (fun e=>d2.2 e.symm) i4),i1.row.keep (hK 100 (by decide) (by decide))⟩,i2,i3,i4⟩
 ·by_cases hik:i=k
  ·subst hik
   rw[List.getElem?_set_self hkv]at hu;cases hu;simp only[if_true];exact ho'
  ·rw[List.getElem?_set_ne (fun e=>hik e.symm)]at hu
   simp only[if_neg hik];have hOi:=hF.own i u hu;have hd:=hF.dis i k u v hik hu hv;refine⟨hOi.1,?_⟩;rcases hOi.2 with h2|⟨g,cap,cur,huv,hbb,hg,r⟩
   ·exact .inl h2
   ·refine .inr ⟨g,cap,cur,huv,hbb,?_,r⟩
    rw[hE.block g (df.1 hg).1 (fun hm=>?_)]
    ·exact hg
    ·rw[huv]at hd
     simp only[Value.ownBlock]at hd;rcases cz.1 hm with rfl|hm
     ·have h:=hF.at_
      unfold At at h;rw[hg]at h;injection h with h;injection h with h1 h2;exact absurd h2 (by decide)
     ·rcases cz.1 hm with rfl|hm
      ·omega
      ·rcases hd with hd|hd
       ·cases hd
       ·exact hd (by rw[Option.mem_toList]at hm;exact hm.symm)
 ·have hnew:∀(z:Value)(j:Nat),vs[j]?=some z->∀g,z.ownBlock=some g->g<w.heap.size:=fun z j hz g hg=>((hF.own j z hz).lt g hg).2
  by_cases hik:i=k
  ·subst hik
   rw[List.getElem?_set_self hkv]at hu;cases hu;rw[List.getElem?_set_ne hij]at hz;rcases hB with e|⟨g,e,hg⟩
   ·rw[e];exact hF.dis i j v z hij hv hz
   ·rw[e]
    right;intro e2;have:=hnew z j hz g e2.symm;omega
  ·rw[List.getElem?_set_ne (fun e=>hik e.symm)]at hu
   by_cases hjk:j=k
   ·subst hjk
    rw[List.getElem?_set_self hkv]at hz;cases hz;rcases hB with e|⟨g,e,hg⟩
    ·rw[e];exact hF.dis i j u v hij hu hv
    ·rw[e]
     right;intro e2;have:=hnew u i hu g e2;omega
   ·rw[List.getElem?_set_ne (fun e=>hjk e.symm)]at hz
    exact hF.dis i j u z hij hu hz
 ·rcases cz.1 hx with rfl|hx
  ·exact .inl rfl
  ·rcases cz.1 hx with rfl|hx
   ·exact .inr (.inl ⟨s,dm hs,rfl⟩)
   ·rw[Option.mem_toList]at hx
    exact .inr (.inr (hO.lt x hx).1)
def lenK(Ls:List (List (Nat->Bool)×Nat))(k:Nat):Nat:=match Ls[k]? with|some p=>p.1.length|none=>0
def adc(t:ByteArray)(Ls:List (List (Nat->Bool)×Nat))(ν:Nat->Nat)(k:Nat):List Int:=match Ls[k]? with|some p=>qm t p.1.length (gc p.1) (p.2:Nat) (ν k)|none=>[]
theorem ac9{t:ByteArray}{Ls:List (List (Nat->Bool)×Nat)}{ν:Nat->Nat}{k:Nat}{p:List (Nat->Bool)×Nat}(h:Ls[k]?=some p):adc t Ls ν k=qm t p.1.length (gc p.1) (p.2:Nat) (ν k):=by
 unfold adc;rw[h]
theorem aee{Ls:List (List (Nat->Bool)×Nat)}{k:Nat}{p:List (Nat->Bool)×Nat}(h:Ls[k]?=some p):lenK Ls k=p.1.length:=by
 unfold lenK;rw[h]
structure tu(w:World)(S FD base N0:Nat)(T:QT)(t:ByteArray)(F sz limit:Int)(sps:List Sp)(m rounds en:Int)(held:ByteArray)(ν:Nat->Nat):Prop where
 at_:∃aq cq asr csr,At w S (zk m rounds (.slice aq (ew T).length cq) F sz limit (te (fy (ew T)):Nat) held en (.slice asr (fy (ew T)).length csr) (.slice (some ⟨FD,0,none⟩) (fy (ew T)).length (fy (ew T)).length))∧
  (ew T).length<=cq/\gd w aq (ew T)/\ft w 140 asr (fy (ew T)).length (sps.map Sp.fn)
 sl:sps.length=(fy (ew T)).length
 sr:SrI w S N0 (fy (ew T)) sps ν
 fd:∃vs,FdI w FD N0 (fy (ew T)).length (adc t (fy (ew T)) ν) vs
 lo:base<=S/\base<=FD/\(∀s∈sps,base<=s.nx)/\base<=N0
 n0:N0<=w.heap.size
end
end Go.Proofs.YtjfkmoinldlmaaaGreat
