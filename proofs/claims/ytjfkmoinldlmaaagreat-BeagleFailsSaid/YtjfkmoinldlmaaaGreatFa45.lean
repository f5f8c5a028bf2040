/- The walk of BeagleFails, part 45. Walk of the parser's item at any tokens. Walk of the parser's item at a Shift. Walk of the parser's item at a bracket, and at any tokens. -/
import Derived.Test.YtjfkmoinldlmaaaGreatFa44
import Derived.Deep.RegionWith
namespace Go.Proofs.YtjfkmoinldlmaaaGreat
open Go.Proofs.Tryz
section
set_option maxRecDepth 100000
set_option maxHeartbeats 4000000
open Go.RowKit Go.Shelf
def xu(toks:List gq)(k:Nat):Prop:=∀u r,toks=u::r->u.kind≠k
theorem j4(P:Nat)(toks:List gq)(k:Nat)(hk:xu toks k)(en a no:Int)(w:World)(h:ic w P toks en a no):
 Calls prog 208 #[.pointer (some ⟨P,0,none⟩),.int .i64 (k:Nat)] w (kx w):=by
 cases toks with
 |nil=>exact ack P k en a no w h
 |cons t l=>exact acj P k t l (by have:=hk t l rfl;omega) en a no w h
theorem ic.kept{w w':World}{P base:Nat}{toks:List gq}{en a no:Int}(h:ic w P toks en a no)(hb:Below base w w')(hP:P<base)(k1:Kt 217 w w')(k2:Kt 100 w w'):ic w' P toks en a no:=by
 obtain⟨⟨ad,cap,h1,h2,h3⟩,h4⟩:=h;exact⟨⟨ad,cap,h1.below hb hP,h2.keep k1 k2,h3⟩,h4⟩
theorem adm{w w':World}{base:Nat}{e:TypeId}{size n:Nat}{S:List Nat}{v:Value}{xs:List Value}(h:w.ownsRow base e size v n xs)(hb:Ex S w w')(hC:∀x∈S,x<base\/w.heap.size<=x):w'.ownsRow base e size v n xs:=by
 refine⟨h.1,?_⟩;rcases h.2 with h2|⟨g,cap,cur,hv,hbb,hg,r⟩
 ·exact .inl h2
 ·refine .inr ⟨g,cap,cur,hv,hbb,?_,r⟩
  have hlt:=(df.1 hg).1;rw[hb.block g hlt (fun hx=>by have:=hC g hx;omega)];exact hg
theorem afm(P:Nat)(toks:List gq)(h5:xu toks 5)(h6:xu toks 6)(h8:xu toks 8)(h1:xu toks 1)(en a:Int)(w:World)(h:ic w P toks en a 0):
 Calls prog 210 #[.pointer (some ⟨P,0,none⟩)] w (lp w P en .item toks):=by
 have n5:Hid (∀w',ic w' P toks en a 0->Calls prog 208 #[.pointer (some ⟨P,0,none⟩),.int .i64 5] w' (kx w')):=aa fun w' h=>j4 P toks 5 h5 en a 0 w' h
 have n6:Hid (∀w',ic w' P toks en a 0->Calls prog 208 #[.pointer (some ⟨P,0,none⟩),.int .i64 6] w' (kx w')):=aa fun w' h=>j4 P toks 6 h6 en a 0 w' h
 have n8:Hid (∀w',ic w' P toks en a 0->Calls prog 208 #[.pointer (some ⟨P,0,none⟩),.int .i64 8] w' (kx w')):=aa fun w' h=>j4 P toks 8 h8 en a 0 w' h
 have n1:Hid (∀w',ic w' P toks en a 0->Calls prog 208 #[.pointer (some ⟨P,0,none⟩),.int .i64 1] w' (kx w')):=aa fun w' h=>j4 P toks 1 h1 en a 0 w' h
 have qf:=aa fun w' h=>sa P toks en a 0 w' h
 have HP:=aa h;clear h h5 h6 h8 h1;go_enter func210,ntmps210;go_wp2_with(first|(go_at_call 208;(with_reducible refine(n5.out w HP.out).mono ?_);rintro e w1⟨rfl,hb1⟩;have P1:=aa ((HP.out.below hb1).below ((aw _ w1).alloc ac (kp 0 0 0 (.slice none 0 0))));have B1:=aa (hb1.alloc hb1.size (kp 0 0 0 (.slice none 0 0)));clear hb1)|(go_at_call 208;(with_reducible refine(n6.out (w1.alloc (kp 0 0 0 (.slice none 0 0))) P1.out).mono ?_);rintro e w2⟨rfl,hb2⟩;have P2:=aa ((P1.out.below hb2).below ((aw _ w2).alloc ac (kp 0 0 0 (.slice none 0 0))));have B2:=aa ((B1.out.trans (hb2.mono B1.out.size)).alloc (ba B1.out.size hb2.size) (kp 0 0 0 (.slice none 0 0)));clear hb2)|(go_at_call 208;(with_reducible refine(n8.out (w2.alloc (kp 0 0 0 (.slice none 0 0))) P2.out).mono ?_);rintro e w3⟨rfl,hb3⟩;have P3:=aa ((P2.out.below hb3).below ((aw _ w3).alloc ac (kp 0 0 0 (.slice none 0 0))));have B3:=aa ((B2.out.trans (hb3.mono B2.out.size)).alloc (ba B2.out.size hb3.size) (kp 0 0 0 (.slice none 0 0)));clear hb3)|(go_at_call 208;(with_reducible refine(n1.out (w3.alloc (kp 0 0 0 (.slice none 0 0))) P3.out).mono ?_);rintro e w4⟨rfl,hb4⟩;have P4:=aa ((P3.out.below hb4).below ((aw _ w4).alloc ac (kp 0 0 0 (.slice none 0 0))));have B4:=aa ((B3.out.trans (hb4.mono B3.out.size)).alloc (ba B3.out.size hb4.size) (kp 0 0 0 (.slice none 0 0)));clear hb4)|(go_at_call 104;(with_reducible refine(qf.out (w4.alloc (kp 0 0 0 (.slice none 0 0))) P4.out).mono ?_);rintro e w5⟨rfl,he5,a5,hp5⟩;have HE5:=aa he5;have HP5:=aa hp5;clear he5 hp5))
 go_ret;have hE:Ex [P] w w5:=((Ex.of (S:=[P]) B4.out).trans HE5.out).mono (by intro x hx;left;simpa using hx);exact⟨_,[],[],toks,a5,140,rfl,bj _ _ _ _,.nil,hE,HP5.out,by simp,.inr ⟨by decide,by decide⟩,fun h=>absurd h (by decide)⟩
theorem aqa(P:Nat)(t:gq)(l:List gq)(ht:t.kind=8)(en a:Int)(w:World)(h:ic w P (t::l) en a 0):
 Calls prog 210 #[.pointer (some ⟨P,0,none⟩)] w (lp w P en .item (t::l)):=by
 obtain⟨toks,htk⟩:∃toks,toks=t::l:=⟨_,rfl⟩;have hn:∀k,k≠8->xu toks k:=fun k hk u r e=>by rw[htk]at e;cases e;omega
 have h5:=hn 5 (by decide);have h6:=hn 6 (by decide);have HP:Hid (ic w P toks en a 0):=aa (by rw[htk];exact h);have n5:Hid (∀w',ic w' P toks en a 0->Calls prog 208 #[.pointer (some ⟨P,0,none⟩),.int .i64 5] w' (kx w')):=aa fun w' h=>j4 P toks 5 h5 en a 0 w' h
 have n6:Hid (∀w',ic w' P toks en a 0->Calls prog 208 #[.pointer (some ⟨P,0,none⟩),.int .i64 6] w' (kx w')):=aa fun w' h=>j4 P toks 6 h6 en a 0 w' h
 have q8:Hid (∀w',ic w' P toks en a 0->Calls prog 208 #[.pointer (some ⟨P,0,none⟩),.int .i64 8] w' (pk w' P t l en a 0)):=aa fun w' h=>by rw[htk]at h;have:=mh P t l en a 0 w' h;rw[ht]at this;exact this
 have qf:Hid (∀pa pc w',ic w' P l en a 0->ft w' 100 pa t.els.length (ji t.els)->Calls prog 231 #[.pointer (some ⟨P,0,none⟩),tkv t pa pc] w' (lp w' P en .item toks)):=aa fun pa pc w' h hr=>by
  rw[htk];by_cases h7:xu l 7
  ·exact aqg P t ht pa pc l h7 en a w' h hr
  ·cases l with
   |nil=>exact absurd (fun u r e=>by cases e) h7
   |cons u l=>
    have hu:u.kind=7:=Decidable.byContradiction fun hu=>h7 fun u' r' e=>by cases e;exact hu
    exact amn P t ht pa pc u l hu en a w' h hr
 have HPl:=aa h.lt;rw[<-htk];have hk8:=aa ht;clear h h5 h6 hn ht htk;go_enter func210,ntmps210;go_wp2_with(first|(go_at_call 208;(with_reducible refine(n5.out w HP.out).mono ?_);rintro e w1⟨rfl,hb1⟩;have P1:=aa ((HP.out.below hb1).below ((aw _ w1).alloc ac (kp 0 0 0 (.slice none 0 0))));have B1:=aa (hb1.alloc hb1.size (kp 0 0 0 (.slice none 0 0)));clear hb1)|(go_at_call 208;(with_reducible refine(n6.out (w1.alloc (kp 0 0 0 (.slice none 0 0))) P1.out).mono ?_);rintro e w2⟨rfl,hb2⟩;have P2:=aa ((P1.out.below hb2).below ((aw _ w2).alloc ac (kp 0 0 0 (.slice none 0 0))));have B2:=aa ((B1.out.trans (hb2.mono B1.out.size)).alloc (ba B1.out.size hb2.size) (kp 0 0 0 (.slice none 0 0)));clear hb2)|(go_at_call 208;(with_reducible refine(q8.out (w2.alloc (kp 0 0 0 (.slice none 0 0))) P2.out).mono ?_);rintro e w3⟨pa,pc,rfl,he3,hp3,hr3⟩;have P3:=aa (hp3.below ((aw _ w3).alloc ac (om t pa pc)));have R3:=aa (hr3.keep (Kt.below ((aw _ w3).alloc ac (om t pa pc))));have E3:Hid (Ex [P] w (w3.alloc (om t pa pc))):=aa ((((Ex.of (S:=[P]) B2.out).trans he3).mono (by intro x hx;left;simpa using hx)).alloc _);clear he3 hp3 hr3)|(go_at_call 231;(with_reducible refine(qf.out pa pc (w3.alloc (om t pa pc)) P3.out R3.out).mono ?_);rintro e w4⟨r,ns,vs,toks',a',no',rfl,g1,g2,g3,g4,g5,g6,g7⟩;have G1:=aa g1;have G2:=aa g2;have G3:=aa g3;have G4:=aa g4;have G5:=aa g5;have G6:=aa g6;have G7:=aa g7;clear g1 g2 g3 g4 g5 g6 g7))
 go_ret;exact⟨r,ns,vs,toks',a',no',rfl,fx G1.out E3.out.size,G2.out,(E3.out.trans G3.out).mono (by intro x hx;left;simpa using hx),G4.out,G5.out,G6.out,G7.out⟩
theorem aqc(P:Nat)(t:gq)(l:List gq)(ht:t.kind=5)(en a:Int)
 (ih:∀w,ic w P l en a 0->Calls prog 210 #[.pointer (some ⟨P,0,none⟩)] w (lp w P en .item l)) (w:World) (h:ic w P (t::l) en a 0):
 Calls prog 210 #[.pointer (some ⟨P,0,none⟩)] w (lp w P en .item (t::l)):=by
 have q5:Hid (Calls prog 208 #[.pointer (some ⟨P,0,none⟩),.int .i64 5] w (pk w P t l en a 0)):=aa (by have:=mh P t l en a 0 w h;rw[ht]at this;exact this);have qi:=aa ih;have hk5:=aa ht;have HPl:=aa h.lt;have Hlen:=aa h.len;clear h ht ih;go_enter func210,ntmps210;go_wp2_with(go_at_call 208;(with_reducible refine q5.out.mono ?_);rintro e w1⟨pa,pc,rfl,he1,hp1,-⟩;have E1:Hid (Ex [P] w ((w1.alloc (om t pa pc)).alloc (fw 4 0 (.slice none 0 0) 0))):=aa ((he1.alloc _).alloc _);have P1:=aa ((hp1.below ((aw _ w1).alloc ac (om t pa pc))).below (ae.alloc ac (fw 4 0 (.slice none 0 0) 0)));have o1:=World.ownsRow_lit (base:=(w1.alloc (om t pa pc)).heap.size) (e:=81) (size:=4) (w1.alloc (om t pa pc)) #[.int .i64 ((4:Nat):Int),.int .i64 ((0:Nat):Int),.slice none 0 0,.int .i64 0] 1 ac (by unfold maxLen;omega) rfl;rw[bg]at o1;have O1:=aa o1;clear o1;have Z1:=aa (Nat.le_succ_of_le he1.size);have S1:=aa (show(w1.alloc (om t pa pc)).heap.size=w1.heap.size+1 by simp);clear he1 hp1)
 generalize hW:w1.alloc (om t pa pc)=W1 at *;clear hW;go_at_call 210;refine(qi.out _ P1.out).mono ?_;rintro e w2⟨r2,ns2,vs2,toks2,a2,no2,rfl,g1,g2,g3,g4,g5,g6,g7⟩;obtain⟨b2,c2,rfl⟩:=ey g1;have hl2:=g2.len (fun _ _ h=>h.len);have HO1:=aa (jy g2 jo);have HN:=aa (ft.own g1).news;have hn2:ns2.length<=1000:=by have:=Hlen.out;simp at this;omega
 have OW:=aa (adm (S:=[P]) O1.out g3 (by intro x hx;rw[cd.1 hx];exact .inl (by have:=HPl.out;have:=Z1.out;omega)));have HZ:=aa (show w1.heap.size+1<=w2.heap.size from by have:=g3.size;have:=S1.out;simp at *;omega);have G2:=aa g2;have G3:=aa g3;have G4:=aa g4;have G5:=aa g5;have G6:=aa g6;have G7:=aa g7;clear g1 g2 g3 g4 g5 g6 g7;go_wp2_with(at_builtin;(with_reducible refine jb j2 rfl _ _ rfl rfl OW.out rfl HN.out hl2 HO1.out (by unfold maxLen;omega) (by omega) HZ.out ?_);intro v9 w9 hown9 hb9 hk9 hg9 hv9;have HO9:=aa hown9;have HB9:=aa hb9;have HK9:=aa hk9;clear hown9 hb9 hk9 hg9 hv9)
 go_ret;have hE:Ex [P] w w9:=((E1.out.trans G3.out).mono (by intro x hx;left;simpa using hx)).far HB9.out Z1.out;refine⟨v9,⟨4,0,[],0⟩::ns2,_,toks2,a2,no2,rfl,?_,(f9.cons (jv w2 4 0) G2.out).mono fun _ _ h=>h.keep (HK9.out 100 (by decide)),hE,G4.out.kept HB9.out (by have:=HPl.out;have:=Z1.out;omega) (HK9.out 217 (by decide)) (HK9.out 100 (by decide)),by have:=G5.out;simp;omega,G6.out,fun hb=>?_⟩
 ·rw[show(⟨4,0,[],0⟩::ns2:List QN).length=1+ns2.length by simp;omega]
  exact fx HO9.out Z1.out
 ·obtain⟨T,hT,hP⟩:=G7.out hb
  exact⟨.not T,by rw[hT];rfl,.not t l T toks2 hk5.out hP⟩
end
section
set_option maxRecDepth 100000
set_option maxHeartbeats 4000000
open Go.RowKit Go.Shelf
theorem aqb(P:Nat)(t:gq)(l:List gq)(ht:t.kind=6)(en a:Int)
 (ih:∀w,ic w P l en a 0->Calls prog 210 #[.pointer (some ⟨P,0,none⟩)] w (lp w P en .item l)) (w:World) (h:ic w P (t::l) en a 0):
 Calls prog 210 #[.pointer (some ⟨P,0,none⟩)] w (lp w P en .item (t::l)):=by
 obtain⟨toks,htk⟩:∃toks,toks=t::l:=⟨_,rfl⟩;have h5:xu toks 5:=fun u r e=>by rw[htk]at e;cases e;omega
 have HP:Hid (ic w P toks en a 0):=aa (by rw[htk];exact h);have n5:Hid (∀w',ic w' P toks en a 0->Calls prog 208 #[.pointer (some ⟨P,0,none⟩),.int .i64 5] w' (kx w')):=aa fun w' h=>j4 P toks 5 h5 en a 0 w' h
 have q6:Hid (∀w',ic w' P toks en a 0->Calls prog 208 #[.pointer (some ⟨P,0,none⟩),.int .i64 6] w' (pk w' P t l en a 0)):=aa fun w' h=>by rw[htk]at h;have:=mh P t l en a 0 w' h;rw[ht]at this;exact this
 have qi:=aa ih;have hk6:=aa ht;have HPl:=aa h.lt;have Hlen:=aa h.len;rw[<-htk];have Hlen2:=aa (show toks.length=l.length+1 by rw[htk];rfl);have HTK:=aa htk;clear h ht ih h5 htk;go_enter func210,ntmps210;go_wp2_with(first|(go_at_call 208;(with_reducible refine(n5.out w HP.out).mono ?_);rintro e w1⟨rfl,hb1⟩;have P1:=aa ((HP.out.below hb1).below ((aw _ w1).alloc ac (kp 0 0 0 (.slice none 0 0))));have B1:=aa (hb1.alloc hb1.size (kp 0 0 0 (.slice none 0 0)));clear hb1)|(go_at_call 208;(with_reducible refine(q6.out (w1.alloc (kp 0 0 0 (.slice none 0 0))) P1.out).mono ?_);rintro e w2⟨pa,pc,rfl,he2,hp2,-⟩;have P2:=aa (hp2.below ((aw _ w2).alloc ac (om t pa pc)));have E2:Hid (Ex [P] w (w2.alloc (om t pa pc))):=aa ((((Ex.of (S:=[P]) B1.out).trans he2).mono (by intro x hx;left;simpa using hx)).alloc _);have A2:=aa (At.new w2 (om t pa pc));have Z2:=aa (show w.heap.size<=w2.heap.size from ba B1.out.size he2.size);have k2:=(At.new w2 (om t pa pc)).cell 2;simp only[ak,am,au]at k2;clear he2 hp2))
 have P7:Hid (ic (w2.alloc (om t pa pc)).drew P l en a 0):=aa (P2.out.below (ae.drew));have E7:Hid (Ex [P] w (w2.alloc (om t pa pc)).drew):=aa E2.out.drew;have A7:Hid (At (w2.alloc (om t pa pc)).drew w2.heap.size (om t pa pc)):=aa A2.out;have Z7:Hid (w.heap.size<=(w2.alloc (om t pa pc)).drew.heap.size):=aa E2.out.size;refine wp_region_held_drew (S:=fun w'=>w'.cell? ⟨w2.heap.size,2,none⟩=some (.int .i64 (t.num:Nat))) (by kernel_rfl) (show(w2.alloc (om t pa pc)).drew.cell? ⟨w2.heap.size,2,none⟩=some (.int .i64 (t.num:Nat))from k2) (fun hS=>?_);generalize (w2.alloc (om t pa pc)).drew=W7 at *;clear k2;have hTP:Hid (w2.heap.size≠P):=aa (by have:=HPl.out;have:=Z2.out;omega);generalize w2.heap.size=T5 at *;have SD:Hid (∀w',Ex [P] W7 w'->w'.cell? ⟨T5,2,none⟩=some (.int .i64 (t.num:Nat))):=aa fun w' he=>(A7.out.ex he (by simpa using hTP.out)).cell 2
 have HPl7:Hid (P<W7.heap.size):=aa (by have:=HPl.out;have:=Z7.out;omega);refine tk 0 31 (.pointer (some ⟨T5,2,none⟩)) hS ?_;refine tk 1 32 (.int .i64 (t.num:Nat)) hS ?_;refine tk 2 33 (.agg #[.int .i64 5,.int .i64 (t.num:Nat),.slice none 0 0,.int .i64 0]) hS ?_;refine tk 4 35 (.pointer (some ⟨P,0,none⟩)) hS ?_;have hb8:=(aw W7.heap.size W7).alloc ac (fw 5 (t.num:Nat) (.slice none 0 0) 0);have HB8:=aa hb8;clear hb8;refine wpAnyH_ready (rs:=[3,5]) (by kernel_rfl) (by simp) ?_;refine AllReadyH.cons rfl (fun Kc hK=>?_) (AllReadyH.cons rfl (fun Kc hK=>?_) AllReadyH.nil)
 ·go_simp
  refine hK.out _ _ (SD.out _ (Ex.of HB8.out)) (fun hH=>?_);try simp only[Act.put,ag,ai,aj]
  clear hK Kc;refine mw 5 (fun Kc hK=>?_);go_simp;go_at_call 210;refine(qi.out (W7.alloc (fw 5 (t.num:Nat) (.slice none 0 0) 0)) (P7.out.below HB8.out)).mono ?_;rintro e w3⟨r3,ns3,vs3,toks3,a3,no3,rfl,g1,g2,g3,g4,g5,g6,g7⟩;dsimp only;obtain⟨b3,c3,rfl⟩:=ey g1;have hl3:=g2.len (fun _ _ h=>h.len);have O3:=aa (jy g2 jo);have hn3:ns3.length<=1000:=by have:=Hlen.out;simp at this;omega
  have G1:=aa g1;have G2:=aa g2;have G3:=aa g3;have G4:=aa g4;have G5:=aa g5;have G6:=aa g6;have G7:=aa g7;clear g1 g2 g3 g4 g5 g6 g7;refine hK.out _ _ (SD.out _ (((Ex.of (S:=[P]) HB8.out).trans G3.out).mono (by intro x hx;left;simpa using hx))) (fun hH=>?_);try simp only[Act.put,ag,ai,aj]
  clear hK Kc;have OW:=aa (adm (S:=[P]) (World.ownsRow_lit (base:=W7.heap.size) (e:=81) (size:=4) W7 #[.int .i64 ((5:Nat):Int),.int .i64 (t.num:Nat),.slice none 0 0,.int .i64 0] 1 ac (by unfold maxLen;omega) rfl) G3.out (by intro x hx;rw[cd.1 hx];exact .inl HPl7.out));have NW:=aa (ft.own G1.out).news;have ZW:=aa (show W7.heap.size<=w3.heap.size from ba HB8.out.size G3.out.size);refine mw 6 (o:={dst:=some 37,op:=.call {callee:=.builtin .append,args:=#[.tmp 34,.tmp 36],argTypes:=#[29,29]},type:=29,pos:= "query.go:175",after:=_,guard:=none}) (fun Kc hK=>?_);refine ij j2 (by with_reducible rfl) (.tmp 34) (.tmp 36) (by with_reducible rfl) (by rfl) OW.out (by rfl) NW.out hl3 O3.out (by unfold maxLen;omega) (by omega) ZW.out ?_;intro v9 w9 hown9 hb9 hk9 hg9 hv9;have HO9:=aa hown9;have HB9:=aa hb9;have HK9:=aa hk9;clear hown9 hb9 hk9 hg9 hv9;refine hK.out _ _ (SD.out _ ((((Ex.of (S:=[P]) HB8.out).trans G3.out).mono (by intro x hx;left;simpa using hx)).far HB9.out ac)) (fun hH=>?_);try simp only[Act.put,ag,ai,aj]
  clear hK Kc;refine tk 7 2 (v9) hH ?_;refine wpAnyH_done (by kernel_rfl) ?_ _;go_wp2_with fail
  go_ret;have hE:Ex [P] w w9:=(((E7.out.then HB8.out).trans G3.out).mono (by intro x hx;left;simpa using hx)).far HB9.out Z7.out;refine⟨v9,⟨5,t.num,[],0⟩::ns3,_,toks3,a3,no3,rfl,?_,(f9.cons (jv w3 5 t.num) (G2.out)).mono fun _ _ h=>h.keep (HK9.out 100 (by decide)),hE,(G4.out).kept HB9.out HPl7.out (HK9.out 217 (by decide)) (HK9.out 100 (by decide)),by have:=G5.out;have:=Hlen2.out;simp;omega,G6.out,fun hb=>?_⟩
  ·rw[show(⟨5,t.num,[],0⟩::ns3:List QN).length=1+ns3.length by simp;omega]
   exact fx HO9.out Z7.out
  ·obtain⟨T,hT,hP⟩:=G7.out hb
   exact⟨.shift t.num T,by rw[hT];rfl,HTK.out▸ .shift t l T toks3 hk6.out hP⟩
 ·go_simp
  go_at_call 210;refine(qi.out W7 P7.out).mono ?_;rintro e w3⟨r3,ns3,vs3,toks3,a3,no3,rfl,g1,g2,g3,g4,g5,g6,g7⟩;dsimp only;obtain⟨b3,c3,rfl⟩:=ey g1;have hl3:=g2.len (fun _ _ h=>h.len);have O3:=aa (jy g2 jo);have hn3:ns3.length<=1000:=by have:=Hlen.out;simp at this;omega
  have G1:=aa g1;have G2:=aa g2;have G3:=aa g3;have G4:=aa g4;have G5:=aa g5;have G6:=aa g6;have G7:=aa g7;clear g1 g2 g3 g4 g5 g6 g7;refine hK.out _ _ (SD.out _ G3.out) (fun hH=>?_);try simp only[Act.put,ag,ai,aj]
  clear hK Kc;have hb8':=(aw w3.heap.size w3).alloc ac (fw 5 (t.num:Nat) (.slice none 0 0) 0);have HB8':=aa hb8';clear hb8';have E8':=aa (G3.out.then HB8'.out);refine mw 3 (fun Kc hK=>?_);go_simp;refine hK.out _ _ (SD.out _ E8'.out) (fun hH=>?_);try simp only[Act.put,ag,ai,aj]
  clear hK Kc;have OW:=aa (World.ownsRow_lit (base:=w3.heap.size) (e:=81) (size:=4) w3 #[.int .i64 ((5:Nat):Int),.int .i64 (t.num:Nat),.slice none 0 0,.int .i64 0] 1 ac (by unfold maxLen;omega) rfl);have NW:=aa ((ft.own G1.out).keep (Kt.below HB8'.out)).news;have ZW:=aa HB8'.out.size;refine mw 6 (o:={dst:=some 37,op:=.call {callee:=.builtin .append,args:=#[.tmp 34,.tmp 36],argTypes:=#[29,29]},type:=29,pos:= "query.go:175",after:=_,guard:=none}) (fun Kc hK=>?_);refine ij j2 (by with_reducible rfl) (.tmp 34) (.tmp 36) (by with_reducible rfl) (by rfl) OW.out (by rfl) NW.out hl3 O3.out (by unfold maxLen;omega) (by omega) ZW.out ?_;intro v9 w9 hown9 hb9 hk9 hg9 hv9;have HO9:=aa hown9;have HB9:=aa hb9;have HK9:=aa hk9;clear hown9 hb9 hk9 hg9 hv9;refine hK.out _ _ (SD.out _ (E8'.out.far HB9.out G3.out.size)) (fun hH=>?_);try simp only[Act.put,ag,ai,aj]
  clear hK Kc;refine tk 7 2 (v9) hH ?_;refine wpAnyH_done (by kernel_rfl) ?_ _;go_wp2_with fail
  go_ret;have hE:Ex [P] w w9:=((E7.out.trans E8'.out).mono (by intro x hx;left;simpa using hx)).far HB9.out (ba Z7.out G3.out.size);refine⟨v9,⟨5,t.num,[],0⟩::ns3,_,toks3,a3,no3,rfl,?_,(f9.cons (jv (w3.alloc (fw 5 (t.num:Nat) (.slice none 0 0) 0)) 5 t.num) (gw G2.out (Kt.below HB8'.out))).mono fun _ _ h=>h.keep (HK9.out 100 (by decide)),hE,(G4.out.below HB8'.out).kept HB9.out (az HPl7.out G3.out.size) (HK9.out 217 (by decide)) (HK9.out 100 (by decide)),by have:=G5.out;have:=Hlen2.out;simp;omega,G6.out,fun hb=>?_⟩
  ·rw[show(⟨5,t.num,[],0⟩::ns3:List QN).length=1+ns3.length by simp;omega]
   exact fx HO9.out (ba Z7.out G3.out.size)
  ·obtain⟨T,hT,hP⟩:=G7.out hb
   exact⟨.shift t.num T,by rw[hT];rfl,HTK.out▸ .shift t l T toks3 hk6.out hP⟩
end
section
set_option maxRecDepth 100000
set_option maxHeartbeats 4000000
open Go.RowKit Go.Shelf
theorem aqd(P:Nat)(t:gq)(l:List gq)(ht:t.kind=1)(en a:Int)
 (ih:∀w,ic w P l en a 0->Calls prog 103 #[.pointer (some ⟨P,0,none⟩)] w (lp w P en .query l)) (w:World) (h:ic w P (t::l) en a 0):
 Calls prog 210 #[.pointer (some ⟨P,0,none⟩)] w (lp w P en .item (t::l)):=by
 obtain⟨toks,htk⟩:∃toks,toks=t::l:=⟨_,rfl⟩;have h5:xu toks 5:=fun u r e=>by rw[htk]at e;cases e;omega
 have h6:xu toks 6:=fun u r e=>by rw[htk]at e;cases e;omega
 have h8:xu toks 8:=fun u r e=>by rw[htk]at e;cases e;omega
 have HP:Hid (ic w P toks en a 0):=aa (by rw[htk];exact h);have n5:Hid (∀w',ic w' P toks en a 0->Calls prog 208 #[.pointer (some ⟨P,0,none⟩),.int .i64 5] w' (kx w')):=aa fun w' h=>j4 P toks 5 h5 en a 0 w' h
 have n6:Hid (∀w',ic w' P toks en a 0->Calls prog 208 #[.pointer (some ⟨P,0,none⟩),.int .i64 6] w' (kx w')):=aa fun w' h=>j4 P toks 6 h6 en a 0 w' h
 have n8:Hid (∀w',ic w' P toks en a 0->Calls prog 208 #[.pointer (some ⟨P,0,none⟩),.int .i64 8] w' (kx w')):=aa fun w' h=>j4 P toks 8 h8 en a 0 w' h
 have q1:Hid (∀w',ic w' P toks en a 0->Calls prog 208 #[.pointer (some ⟨P,0,none⟩),.int .i64 1] w' (pk w' P t l en a 0)):=aa fun w' h=>by rw[htk]at h;have:=mh P t l en a 0 w' h;rw[ht]at this;exact this
 have qi:=aa ih;have hk1:=aa ht;have HPl:=aa h.lt;have Hlen:=aa h.len;rw[<-htk];have Hlen2:=aa (show toks.length=l.length+1 by rw[htk];rfl);have HTK:=aa htk;clear h ht ih h5 h6 h8 htk;go_enter func210,ntmps210;go_wp2_with(first|(go_at_call 208;(with_reducible refine(n5.out w HP.out).mono ?_);rintro e w1⟨rfl,hb1⟩;have P1:=aa ((HP.out.below hb1).below ((aw _ w1).alloc ac (kp 0 0 0 (.slice none 0 0))));have B1:=aa (hb1.alloc hb1.size (kp 0 0 0 (.slice none 0 0)));clear hb1)|(go_at_call 208;(with_reducible refine(n6.out (w1.alloc (kp 0 0 0 (.slice none 0 0))) P1.out).mono ?_);rintro e w2⟨rfl,hb2⟩;have P2:=aa ((P1.out.below hb2).below ((aw _ w2).alloc ac (kp 0 0 0 (.slice none 0 0))));have B2:=aa ((B1.out.trans (hb2.mono B1.out.size)).alloc (ba B1.out.size hb2.size) (kp 0 0 0 (.slice none 0 0)));clear hb2)|(go_at_call 208;(with_reducible refine(n8.out (w2.alloc (kp 0 0 0 (.slice none 0 0))) P2.out).mono ?_);rintro e w3⟨rfl,hb3⟩;have P3:=aa ((P2.out.below hb3).below ((aw _ w3).alloc ac (kp 0 0 0 (.slice none 0 0))));have B3:=aa ((B2.out.trans (hb3.mono B2.out.size)).alloc (ba B2.out.size hb3.size) (kp 0 0 0 (.slice none 0 0)));clear hb3)|(go_at_call 208;(with_reducible refine(q1.out (w3.alloc (kp 0 0 0 (.slice none 0 0))) P3.out).mono ?_);rintro e w4⟨pa,pc,rfl,he4,hp4,-⟩;have P4:=aa (hp4.below ((aw _ w4).alloc ac (om t pa pc)));have E4:Hid (Ex [P] w (w4.alloc (om t pa pc))):=aa ((((Ex.of (S:=[P]) B3.out).trans he4).mono (by intro x hx;left;simpa using hx)).alloc _);have Z4:=aa (show w.heap.size<=(w4.alloc (om t pa pc)).heap.size from E4.out.size);clear he4 hp4))
 go_at_call 103;refine(qi.out _ P4.out).mono ?_;rintro e w5⟨r,ns,vs,toks5,a5,no5,rfl,g1,g2,g3,g4,g5,g6,g7⟩;have G1:=aa g1;have G2:=aa g2;have G3:=aa g3;have G4:=aa g4;have G5:=aa g5;have G6:=aa g6;have G7:=aa g7;have HP5:=aa (az HPl.out (ba Z4.out g3.size));have E5:Hid (Ex [P] w w5):=aa ((E4.out.trans g3).mono (by intro x hx;left;simpa using hx));clear g1 g2 g3 g4 g5 g6 g7;by_cases h2:∃u l5,toks5=u::l5/\u.kind=2
 ·obtain⟨u,l5,rfl,hu⟩:=h2
  have q2:Hid (Calls prog 208 #[.pointer (some ⟨P,0,none⟩),.int .i64 2] w5 (pk w5 P u l5 en a5 no5)):=aa (by have:=mh P u l5 en a5 no5 w5 G4.out;rw[hu]at this;exact this);have HU:=aa hu;clear hu;go_wp2_with(go_at_call 208;(with_reducible refine q2.out.mono ?_);rintro e w6⟨pb,pd,rfl,he6,hp6,-⟩;have E6:Hid (Ex [P] w5 (w6.alloc (om u pb pd))):=aa (he6.alloc _);have P6:=aa (hp6.below ((aw _ w6).alloc ac (om u pb pd)));clear he6 hp6)
  go_ret;refine⟨r,ns,vs,l5,a5,no5,rfl,adm (S:=[P]) (fx G1.out Z4.out) E6.out (by intro x hx;rw[cd.1 hx];exact .inl HPl.out),gw G2.out (G4.out.kt E6.out 100 (by decide)),(E5.out.trans E6.out).mono (by intro x hx;left;simpa using hx),P6.out,by have g:=G5.out;have:=Hlen2.out;simp at g;omega,G6.out,fun hb=>?_⟩;obtain⟨T,hT,hP⟩:=G7.out hb;exact⟨T,hT,HTK.out▸ .brack t l T u l5 hk1.out hP HU.out⟩
 ·have hn2:xu toks5 2:=fun u r e hu=>h2 ⟨u,r,e,hu⟩
  clear h2;have q2:Hid (Calls prog 208 #[.pointer (some ⟨P,0,none⟩),.int .i64 2] w5 (kx w5)):=aa (j4 P toks5 2 hn2 en a5 no5 w5 G4.out);have qf:=aa fun w' h=>sa P toks5 en a5 no5 w' h
  clear hn2;go_wp2_with(first|(go_at_call 208;(with_reducible refine q2.out.mono ?_);rintro e w6⟨rfl,hb6⟩;have P6:=aa ((G4.out.below hb6).below ((aw _ w6).alloc ac (kp 0 0 0 (.slice none 0 0))));have B6:=aa (hb6.alloc hb6.size (kp 0 0 0 (.slice none 0 0)));clear hb6)|(go_at_call 104;(with_reducible refine(qf.out (w6.alloc (kp 0 0 0 (.slice none 0 0))) P6.out).mono ?_);rintro e w7⟨rfl,he7,a7,hp7⟩;have HE7:=aa he7;have HP7:=aa hp7;clear he7 hp7))
  go_ret;refine⟨_,[],[],toks5,a7,_,rfl,bj _ _ _ _,.nil,(((E5.out.trans (Ex.of (S:=[P]) B6.out)).trans HE7.out).mono (by intro x hx;left;simpa using hx)),HP7.out,by have:=G5.out;have:=Hlen2.out;simp;omega,?_,fun h=>?_⟩
  ·rcases G6.out with h|h
   ·rw[if_pos h];exact .inr ⟨by decide,by decide⟩
   ·rw[if_neg (by omega)];exact .inr h
  ·split at h<;>first|exact absurd h (by decide)|exact absurd h (by assumption)
theorem aml(P:Nat)(en:Int)(toks:List gq)
 (ii:∀l,l.length<toks.length->∀a w,ic w P l en a 0->Calls prog 210 #[.pointer (some ⟨P,0,none⟩)] w (lp w P en .item l))
 (iq:∀l,l.length<toks.length->∀a w,ic w P l en a 0->Calls prog 103 #[.pointer (some ⟨P,0,none⟩)] w (lp w P en .query l)) (a:Int) (w:World) (h:ic w P toks en a 0):
 Calls prog 210 #[.pointer (some ⟨P,0,none⟩)] w (lp w P en .item toks):=by
 cases toks with
 |nil=>exact afm P [] (fun _ _ e=>by cases e) (fun _ _ e=>by cases e) (fun _ _ e=>by cases e) (fun _ _ e=>by cases e) en a w h
 |cons t l=>
  by_cases k5:t.kind=5
  ·exact aqc P t l k5 en a (ii l (by simp) a) w h
  by_cases k6:t.kind=6
  ·exact aqb P t l k6 en a (ii l (by simp) a) w h
  by_cases k8:t.kind=8
  ·exact aqa P t l k8 en a w h
  by_cases k1:t.kind=1
  ·exact aqd P t l k1 en a (iq l (by simp) a) w h
  exact afm P (t::l) (fun _ _ e=>by cases e;exact k5) (fun _ _ e=>by cases e;exact k6) (fun _ _ e=>by cases e;exact k8) (fun _ _ e=>by cases e;exact k1) en a w h
end
end Go.Proofs.YtjfkmoinldlmaaaGreat
