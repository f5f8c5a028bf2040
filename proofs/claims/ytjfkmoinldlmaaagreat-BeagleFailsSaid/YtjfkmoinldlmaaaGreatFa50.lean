/- BeagleFails: where a search's text fails, what the search tells is what the document says: for every query, text and place. No condition beside the given row's own. -/
import Derived.Test.YtjfkmoinldlmaaaGreatFa49
import Derived.Test.YtjfkmoinldlmaaaGreatFa43
namespace Go.Proofs.YtjfkmoinldlmaaaGreat
open Go.Proofs.Tryz
section
set_option maxRecDepth 100000
set_option maxHeartbeats 8000000
open Go.RowKit Go.Shelf
abbrev abS:ByteArray:=⟨#[97,98]⟩
theorem asj(way:Int)(h:way=1\/way=2\/way=3\/way=4\/way=5):s6 way ts.size 4 0 (ke abS) 2=true:=by
 rcases h with rfl|rfl|rfl|rfl|rfl<;>decide+kernel
theorem ab_occ:p4 ts 2 (ke abS) 0=[0,2]:=by decide+kernel
theorem a_full:fj (ke abS 0) (fun _=>true)=false:=by decide+kernel
theorem a_none:fj fu (ke abS 0)=false:=by decide+kernel
theorem a_97:ke abS 0 97=true:=by decide+kernel
theorem a_98:ke abS 0 98=false:=by decide+kernel
theorem xg(way:Int)(h:way=1\/way=2\/way=3\/way=4\/way=5)(ad:Option Addr)(cap:Nat)(w:World)(hR:fm w ad 2 (ke abS) w.heap.size):
 Calls prog 19 #[.int .i64 way,.agg #[.slice ad 2 cap,.int .i64 0],.string ts,.int .i64 4] w fun e w'=>∃ad2 c z,e=.returned (.tuple #[.slice ad2 2 c,.int .i64 z,.int .i64 0])/\gg w' ad2 2 (gi [0,2]) w'.heap.size/\Below w.heap.size w w':=by
 have hf:=acm way ad 2 cap 0 (ke abS) ts 4 (by decide) (asj way h) w hR;rw[ab_occ]at hf;refine hf.mono ?_;rintro e w'⟨v,z,rfl,ho,hb⟩;obtain⟨ad2,c,rfl⟩:=ey ho;exact⟨ad2,c,z,rfl,kc (l:=[0,2]) ho,hb⟩
theorem amk(ad ad':Option Addr)(c c':Nat)(w:World)(h:gg w ad 2 (gi [0,2]) w.heap.size)(h':gg w ad' 2 (gi [0,2]) w.heap.size):
 Calls prog 20 #[.slice ad 2 c,.slice ad' 2 c'] w fun e w'=>e=.returned (.bool true)/\Below w.heap.size w w':=by
 have hp:=ah6 ad 2 c (gi [0,2]) ad' 2 c' (gi [0,2]) (by omega) (by omega) w h h';rwa[show(decide ((2:Nat)=2)&&agI (gi [0,2]) (gi [0,2]) 2)=true by decide]at hp
theorem s8(w:World):gg (w.alloc (.cells #[.int .i64 0,.int .i64 2] 3)) (some ⟨w.heap.size,0,none⟩) 2 (gi [0,2]) (w.alloc (.cells #[.int .i64 0,.int .i64 2] 3)).heap.size:=by
 refine .inr ⟨w.heap.size,0,rfl,by simp,fun j hj=>?_⟩;have h:=At.new w (.cells #[.int .i64 0,.int .i64 2] 3);rw[dg,h.cell j];rcases(show j=0\/j=1 by omega)with rfl|rfl<;>rfl
theorem text_ab(w:World):Calls prog 18 #[.string abS,.int .i64 0] w fun e w'=>∃g cap,e=.returned (.agg #[.slice (some ⟨g,0,none⟩) 2 cap,.int .i64 0])/\2<=cap/\fm w' (some ⟨g,0,none⟩) 2 (ke abS) w'.heap.size/\Below w.heap.size w w':=by
 refine(aoy abS (by decide) 0 w).mono ?_;rintro e w'⟨ad,cap,rfl,ho,hb⟩;have hr:=yq ho;rcases ho.2 with⟨-,h0⟩|⟨g,c,cur,hv,-,-,hn,-⟩
 ·cases h0
 ·cases hv
  exact⟨g,cap,rfl,hn,hr,hb⟩
theorem aru(g cap:Nat)(w:World)(hR:fm w (some ⟨g,0,none⟩) 2 (ke abS) w.heap.size):
 Calls prog 21 #[.agg #[.int .i64 2,.string ts],.agg #[.int .i64 1,.slice (some ⟨g,0,none⟩) 1 cap],.int .i64 4] w fun e w'=>∃ad c z,e=.returned (.tuple #[.slice ad 2 c,.int .i64 z,.int .i64 0])/\Below w.heap.size w w':=by
 obtain⟨b,o,hbo,hb,e0,e1,e2,e3⟩:=hR.at (show 0<2 by omega);cases hbo;simp only[Nat.zero_mul,Nat.add_zero]at e0 e1 e2 e3;exact anh g 0 cap (ke abS 0) a_full a_none a_97 a_98 w hb e0 e1 e2 e3
theorem aoc(w:World):Calls prog 6 #[] w fun e w'=>e=.returned (.bool true)/\Below w.heap.size w w':=by
 have hte:=aa fun w'=>text_ab w'
 have hpl:=aa fun ad ad' c c' w' h h'=>amk ad ad' c c' w' h h'
 have hli:=aa fun w'=>line_at w'
 have hgf:=aa fun g cap w' h=>aru g cap w' h
 have hf1:=aa fun ad cap w' h=>xg 1 (by decide) ad cap w' h
 have hf2:=aa fun ad cap w' h=>xg 2 (by decide) ad cap w' h
 have hf3:=aa fun ad cap w' h=>xg 3 (by decide) ad cap w' h
 have hf4:=aa fun ad cap w' h=>xg 4 (by decide) ad cap w' h
 have hf5:=aa fun ad cap w' h=>xg 5 (by decide) ad cap w' h
 go_enter func6,ntmps6;go_wp2_with(go_at_call 18;refine(hte.out (w.alloc cfC)).mono ?_;rintro e w1⟨g,cap,rfl,hcap,hR1,hb1⟩;have R1:=aa hR1;have B1:=aa hb1;clear hR1 hb1)
 have HB0:=aa (((((aw w.heap.size w).alloc ac cfC)).trans (B1.out.mono (by simp))).alloc (ba (by simp) B1.out.size) (.cells #[.slice (some ⟨g,0,none⟩) 2 cap,.int .i64 0] 52));have HC0:=aa (((At.new w cfC).below B1.out (by simp)).alloc (.cells #[.slice (some ⟨g,0,none⟩) 2 cap,.int .i64 0] 52));have HL0:=aa (At.new w1 (.cells #[.slice (some ⟨g,0,none⟩) 2 cap,.int .i64 0] 52));have HR0:Hid (fm (w1.alloc (.cells #[.slice (some ⟨g,0,none⟩) 2 cap,.int .i64 0] 52)) (some ⟨g,0,none⟩) 2 (ke abS) (w1.alloc (.cells #[.slice (some ⟨g,0,none⟩) 2 cap,.int .i64 0] 52)).heap.size):=aa ((R1.out.below ((aw w1.heap.size w1).alloc ac _) ac).mono (by simp));have HCap:=aa hcap;generalize w1.alloc (.cells #[.slice (some ⟨g,0,none⟩) 2 cap,.int .i64 0] 52)=V0 at *;generalize w1.heap.size=LB at *;clear R1 B1 hcap;refine du 6 ?_;have l0:=HL0.out.cell 0;have l1:=HL0.out.cell 1;have ll:=HL0.out.lt;simp only[ak,am,au]at l0 l1;rw[cj];go_wp2_with(first|(go_at_call 19;refine(hf1.out _ _ V0 HR0.out).mono ?_;rintro e w2⟨ad2,c2,z2,rfl,hI,hb⟩;have Ia:=aa hI;have Ba:=aa hb;clear hI hb)|(go_at_call 20;refine(hpl.out _ _ _ _ _ ((Ia.out.below ((aw w2.heap.size w2).alloc ac _) ac).mono (by simp)) (s8 w2)).mono ?_;rintro e w3⟨rfl,hb⟩;have Bb:=aa ((Ba.out.alloc Ba.out.size _).trans (hb.mono (ba Ba.out.size (by simp))));clear hb))
 have HL1:=aa (HL0.out.below Bb.out HL0.out.lt);have HC1:=aa (HC0.out.below Bb.out HC0.out.lt);have HR1:=aa ((HR0.out.below Bb.out ac).mono Bb.out.size);have HB1:=aa (HB0.out.trans (Bb.out.mono HB0.out.size));clear l0 l1 ll Ia Ba Bb HL0 HC0 HR0 HB0;obtain⟨V1,rfl⟩:∃V,V=w3:=⟨w3,rfl⟩;have l0:=HL1.out.cell 0;have l1:=HL1.out.cell 1;have ll:=HL1.out.lt;simp only[ak,am,au]at l0 l1;rw[cj];go_wp2_with(first|(go_at_call 19;refine(hf2.out _ _ V1 HR1.out).mono ?_;rintro e w2⟨ad2,c2,z2,rfl,hI,hb⟩;have Ia:=aa hI;have Ba:=aa hb;clear hI hb)|(go_at_call 20;refine(hpl.out _ _ _ _ _ ((Ia.out.below ((aw w2.heap.size w2).alloc ac _) ac).mono (by simp)) (s8 w2)).mono ?_;rintro e w3⟨rfl,hb⟩;have Bb:=aa ((Ba.out.alloc Ba.out.size _).trans (hb.mono (ba Ba.out.size (by simp))));clear hb))
 have HL2:=aa (HL1.out.below Bb.out HL1.out.lt);have HC2:=aa (HC1.out.below Bb.out HC1.out.lt);have HR2:=aa ((HR1.out.below Bb.out ac).mono Bb.out.size);have HB2:=aa (HB1.out.trans (Bb.out.mono HB1.out.size));clear l0 l1 ll Ia Ba Bb HL1 HC1 HR1 HB1;obtain⟨V2,rfl⟩:∃V,V=w3:=⟨w3,rfl⟩;have l0:=HL2.out.cell 0;have l1:=HL2.out.cell 1;have ll:=HL2.out.lt;simp only[ak,am,au]at l0 l1;rw[cj];go_wp2_with(first|(go_at_call 19;refine(hf3.out _ _ V2 HR2.out).mono ?_;rintro e w2⟨ad2,c2,z2,rfl,hI,hb⟩;have Ia:=aa hI;have Ba:=aa hb;clear hI hb)|(go_at_call 20;refine(hpl.out _ _ _ _ _ ((Ia.out.below ((aw w2.heap.size w2).alloc ac _) ac).mono (by simp)) (s8 w2)).mono ?_;rintro e w3⟨rfl,hb⟩;have Bb:=aa ((Ba.out.alloc Ba.out.size _).trans (hb.mono (ba Ba.out.size (by simp))));clear hb))
 have HL3:=aa (HL2.out.below Bb.out HL2.out.lt);have HC3:=aa (HC2.out.below Bb.out HC2.out.lt);have HR3:=aa ((HR2.out.below Bb.out ac).mono Bb.out.size);have HB3:=aa (HB2.out.trans (Bb.out.mono HB2.out.size));clear l0 l1 ll Ia Ba Bb HL2 HC2 HR2 HB2;obtain⟨V3,rfl⟩:∃V,V=w3:=⟨w3,rfl⟩;have l0:=HL3.out.cell 0;have l1:=HL3.out.cell 1;have ll:=HL3.out.lt;simp only[ak,am,au]at l0 l1;rw[cj];go_wp2_with(first|(go_at_call 19;refine(hf4.out _ _ V3 HR3.out).mono ?_;rintro e w2⟨ad2,c2,z2,rfl,hI,hb⟩;have Ia:=aa hI;have Ba:=aa hb;clear hI hb)|(go_at_call 20;refine(hpl.out _ _ _ _ _ ((Ia.out.below ((aw w2.heap.size w2).alloc ac _) ac).mono (by simp)) (s8 w2)).mono ?_;rintro e w3⟨rfl,hb⟩;have Bb:=aa ((Ba.out.alloc Ba.out.size _).trans (hb.mono (ba Ba.out.size (by simp))));clear hb))
 have HL4:=aa (HL3.out.below Bb.out HL3.out.lt);have HC4:=aa (HC3.out.below Bb.out HC3.out.lt);have HR4:=aa ((HR3.out.below Bb.out ac).mono Bb.out.size);have HB4:=aa (HB3.out.trans (Bb.out.mono HB3.out.size));clear l0 l1 ll Ia Ba Bb HL3 HC3 HR3 HB3;obtain⟨V4,rfl⟩:∃V,V=w3:=⟨w3,rfl⟩;have l0:=HL4.out.cell 0;have l1:=HL4.out.cell 1;have ll:=HL4.out.lt;simp only[ak,am,au]at l0 l1;rw[cj];go_wp2_with(first|(go_at_call 19;refine(hf5.out _ _ V4 HR4.out).mono ?_;rintro e w2⟨ad2,c2,z2,rfl,hI,hb⟩;have Ia:=aa hI;have Ba:=aa hb;clear hI hb)|(go_at_call 20;refine(hpl.out _ _ _ _ _ ((Ia.out.below ((aw w2.heap.size w2).alloc ac _) ac).mono (by simp)) (s8 w2)).mono ?_;rintro e w3⟨rfl,hb⟩;have Bb:=aa ((Ba.out.alloc Ba.out.size _).trans (hb.mono (ba Ba.out.size (by simp))));clear hb))
 have HL5:=aa (HL4.out.below Bb.out HL4.out.lt);have HC5:=aa (HC4.out.below Bb.out HC4.out.lt);have HR5:=aa ((HR4.out.below Bb.out ac).mono Bb.out.size);have HB5:=aa (HB4.out.trans (Bb.out.mono HB4.out.size));clear l0 l1 ll Ia Ba Bb HL4 HC4 HR4 HB4;obtain⟨V5,rfl⟩:∃V,V=w3:=⟨w3,rfl⟩;rw[cj];have l0:=HL5.out.cell 0;have ll:=HL5.out.lt;simp only[ak,am]at l0;have hcp:=HCap.out;go_wp2_with(first|(go_at_call 21;refine(hgf.out g cap V5 HR5.out).mono ?_;rintro e w4⟨ad4,c4,z4,rfl,hb⟩;have HB6:=aa (HB5.out.trans (hb.mono HB5.out.size));have HC6:=aa (HC5.out.below hb HC5.out.lt);have a0:=HC6.out.cell 0;have a1:=HC6.out.cell 1;have a2:=HC6.out.cell 2;have a3:=HC6.out.cell 3;have a4:=HC6.out.cell 4;have a5:=HC6.out.cell 5;have al:=HC6.out.lt;simp only[ak,am,au]at a0 a1 a2 a3 a4 a5;clear hb l0 ll)|(go_at_call 22;refine(hli.out w4).mono ?_;rintro e w5⟨rfl,hb⟩;have HB7:=aa (HB6.out.trans (hb.mono HB6.out.size));clear hb))
 go_ret;exact⟨rfl,HB7.out⟩
end
section
set_option maxRecDepth 100000
set_option maxHeartbeats 8000000
open Go.RowKit Go.Shelf
theorem al4(x:QN)(hk:1<=x.kind/\x.kind<=5)(hn:x.els.length<=2000)(hB:my x=true)(pa:Option Addr)(pc:Nat)(w:World)(h:ft w 100 pa x.els.length (ji x.els)):
 Calls prog 125 #[vw x pa pc] w fun e w'=>e=.returned (.bool true)/\Below w.heap.size w w':=by
 obtain⟨k,num,els,kk⟩:=x;simp only at hk hn h;have hA:Below w.heap.size w (w.alloc (fw k num (.slice pa els.length pc) kk)):=ae.alloc ac _;have Q:=aa fun w'(h:ft w' 100 pa els.length (ji els))=>px pa els.length pc (kk:Nat) (gc els) (by omega) w' h.rowC
 have HH:=aa h;have HA:=aa hA;unfold my at hB;simp only[ce,Bool.or_eq_true,beq_iff_eq,cg]at hB;obtain⟨h1,h2,h3⟩:=hB;have hni:(num:Int)<=1000000:=by omega
 have hn0:(0:Int)<=num:=by omega
 have hl:=(At.new w (fw k num (.slice pa els.length pc) kk)).lt;clear hA h;have hkk:k=1\/k=2\/k=3\/k=4\/k=5:=by omega
 clear hk;rcases hkk with rfl|rfl|rfl|rfl|rfl
 ·obtain rfl:num=0:=by omega
  rw[if_pos rfl]at h3;rw[h3]at Q;go_enter func125,ntmps125;go_wp2_with fail
  go_at_call 172;refine(Q.out _ (HH.out.keep (Kt.below HA.out))).mono ?_;rintro e w1⟨rfl,hb1⟩;have B1:=aa (HA.out.trans (hb1.mono HA.out.size));clear hb1;go_wp2_with fail
  go_ret;exact⟨rfl,B1.out⟩
 all_goals(rw[if_neg (by decide)]at h3)
 all_goals(simp only[ce,beq_iff_eq]at h3)
 all_goals(obtain⟨h4,rfl⟩:=h3)
 all_goals(have hz:((els.length:Int)==0)=true:=by rw[h4];rfl)
 all_goals(clear h4)
 ·obtain rfl:num=0:=by omega
  go_enter func125,ntmps125;go_wp2_with fail
  go_ret;exact⟨rfl,HA.out⟩
 ·obtain rfl:num=0:=by omega
  go_enter func125,ntmps125;go_wp2_with fail
  go_ret;exact⟨rfl,HA.out⟩
 ·obtain rfl:num=0:=by omega
  go_enter func125,ntmps125;go_wp2_with fail
  go_ret;exact⟨rfl,HA.out⟩
 ·have hd:decide ((1000000:Int)<num)=false:=bv (by omega)
  have hd2:decide ((num:Int)<0)=false:=bv (by omega);go_enter func125,ntmps125;go_wp2_with fail
  go_ret;exact⟨rfl,HA.out⟩
theorem afa(T:QT)(hE:∀x∈ew T,x.els.length<=2000)(hrT:ir T=true)(ad:Option Addr)(cap:Nat)(w:World)(hN:gd w ad (ew T)):
 Calls prog 65 #[.slice ad (ew T).length cap] w fun e w'=>e=.returned (.bool true)/\Below w.heap.size w w':=by
 have HN:=aa hN;have hl64:=m9 hrT;have hnI:((ew T).length:Int)<=64:=by omega
 have HB:Hid (∀x∈ew T,my x=true):=aa (by
  unfold ir at hrT
  simp only[ce,List.all_eq_true]at hrT
  exact hrT.1)
 have hd16:jt T<=16:=by
  unfold ir at hrT;simp only[ce,cg]at hrT;exact hrT.2.2
 have hd1:=rp T;have HK:=aa (po T);have HE:=aa hE;have hd16i:(jt T:Int)<=16:=by omega
 have hd1i:(1:Int)<=jt T:=by omega
 have QD:=aa fun w' h=>aaw T (by omega) ad cap w' h
 clear hN hrT hE;go_enter func65,ntmps65;go_wp2_with fail
 go_loopw[3] (fun i wr=>∃q:Nat,q<=(ew T).length/\i=.int .i64 (q:Nat)/\Below w.heap.size w wr) (fun i _=>(ew T).length-(intOf i).toNat)
 case atStart=>exact⟨0,cx _,rfl,ae⟩
 case round=>
  obtain⟨q,hq,rfl,hb⟩:=hrel;have Hb:=aa hb;clear hb;by_cases hlt:q<(ew T).length
  ·have hlti:(q:Int)<(ew T).length:=by omega
   have hq0:(0:Int)<=q:=by omega
   obtain⟨x,hx⟩:∃x,(ew T)[q]?=some x:=⟨_,bs hlt⟩;obtain⟨b,o,pa,pc,rfl,hbm,e0,e1,e2,e3,hr⟩:=(HN.out.below Hb.out).at hx;have hm:=dm hx;have hcall:=aa (al4 x (HK.out x hm) (HE.out x hm) (HB.out x hm) pa pc wr hr);clear hx hr hm;go_wp2_with(go_at_call 125;(with_reducible refine hcall.out.mono ?_);rintro e w1⟨rfl,hb1⟩;have B1:=aa (Hb.out.trans (hb1.mono Hb.out.size));clear hb1)
   go_roundw
   case rel=>exact⟨q+1,by omega,by go_num,B1.out⟩
   case measure=>simp[intOf];omega
  ·obtain rfl:q=(ew T).length:=by omega
   have q1:=aa (QD.out wr (HN.out.below Hb.out));go_wp2_with(go_at_call 25;(with_reducible refine q1.out.mono ?_);rintro e w1⟨rfl,rfl⟩)
   go_ret;exact⟨rfl,Hb.out⟩
theorem ahk(T:QT)(hl:(ew T).length<=2000)(ad:Option Addr)(cap:Nat)(w:World)(hN:gd w ad (ew T)):
 Calls prog 10 #[.slice ad (ew T).length cap] w fun e w'=>e=.returned (.bool (jk T))/\Below w.heap.size w w':=by
 have HN:=aa hN;have hnI:((ew T).length:Int)<=2000:=by omega
 have HK:=aa (po T);clear hN;go_enter func10,ntmps10;go_wp2_with fail
 go_loopw[3] (fun i wr=>∃q:Nat,q<=(ew T).length/\i=.int .i64 (q:Nat)/\Hid (∀j,j<q->∀x,(ew T)[j]?=some x->x.kind≠4/\x.kind≠5)/\Below w.heap.size w wr) (fun i _=>(ew T).length-(intOf i).toNat)
 case atStart=>exact⟨0,cx _,rfl,aa fun j h=>absurd h (Nat.not_lt_zero j),ae⟩
 case round=>
  obtain⟨q,hq,rfl,hno,hb⟩:=hrel;have Hb:=aa hb;clear hb;by_cases hlt:q<(ew T).length
  ·have hlti:(q:Int)<(ew T).length:=by omega
   have hq0:(0:Int)<=q:=by omega
   obtain⟨x,hx⟩:∃x,(ew T)[q]?=some x:=⟨_,bs hlt⟩;obtain⟨b,o,pa,pc,rfl,hbm,e0,e1,e2,e3,hr⟩:=(HN.out.below Hb.out).at hx;have hm:=dm hx;have hk:=HK.out x hm;have HX:=aa hx;have HM:=aa hm;clear hx hr hm e1 e2 e3;have hkk:x.kind=1\/x.kind=2\/x.kind=3\/x.kind=4\/x.kind=5:=by omega
   have fin:x.kind≠4->x.kind≠5->Hid (∀j,j<q+1->∀y,(ew T)[j]?=some y->y.kind≠4/\y.kind≠5):=fun h4 h5=>aa fun j hj y hy=>by
    by_cases hjq:j=q
    ·subst hjq
     rw[HX.out]at hy;cases hy;exact⟨h4,h5⟩
    ·exact hno.out j (by omega) y hy
   have bad:x.kind=4\/x.kind=5->jk T=false:=fun h=>by
    unfold jk;rw[List.all_eq_false];refine⟨x,HM.out,?_⟩;rcases h with h|h<;>simp[h]
   rcases hkk with hk'|hk'|hk'|hk'|hk'
   all_goals(have Hk:=aa hk')
   all_goals(rw[hk']at e0)
   all_goals(clear hk hk')
   all_goals(go_wp2_with fail)
   ·go_roundw
    case rel=>exact⟨q+1,by omega,by go_num,fin (by rw[Hk.out];decide) (by rw[Hk.out];decide),Hb.out⟩
    case measure=>simp[intOf];omega
   ·go_roundw
    case rel=>exact⟨q+1,by omega,by go_num,fin (by rw[Hk.out];decide) (by rw[Hk.out];decide),Hb.out⟩
    case measure=>simp[intOf];omega
   ·go_roundw
    case rel=>exact⟨q+1,by omega,by go_num,fin (by rw[Hk.out];decide) (by rw[Hk.out];decide),Hb.out⟩
    case measure=>simp[intOf];omega
   ·go_ret
    exact⟨by rw[bad (.inl Hk.out)];rfl,Hb.out⟩
   ·go_ret
    exact⟨by rw[bad (.inr Hk.out)];rfl,Hb.out⟩
  ·obtain rfl:q=(ew T).length:=by omega
   have hp:jk T=true:=by
    unfold jk;rw[List.all_eq_true];intro x hx;obtain⟨j,hj⟩:=List.mem_iff_getElem?.1 hx;have:=hno.out j (cy.1 hj).1 x hj;simp[this.1,this.2]
   have HP:=aa hp;clear hp;go_wp2_with fail
   go_ret;exact⟨by rw[HP.out];rfl,Hb.out⟩
end
section
set_option maxRecDepth 100000
set_option maxHeartbeats 8000000
open Go.RowKit Go.Shelf
def asl(l:List Int)(a b:Nat)(w:World)(e:Ending)(w':World):Prop:=
 ∃ad c,e=.returned (.tuple #[.slice ad l.length c,.int .i64 (a:Nat),.int .i64 (b:Nat)])/\gg w' ad l.length (gi l) w'.heap.size/\Below w.heap.size w w'
theorem ah4{a b:QT}(h:jk (.and a b)=true):jk a=true/\jk b=true:=by
 unfold jk at *;simp only[ew,List.all_cons,List.all_append,ce]at h;exact h.2
theorem amj{a b:QT}(h:jk (.or a b)=true):jk a=true/\jk b=true:=by
 unfold jk at *;simp only[ew,List.all_cons,List.all_append,ce]at h;exact h.2
theorem aad{α:Type}{l m:List α}{q:Nat}{x:α}(h:l.drop q=x::m):l[q]?=some x/\l.drop (q+1)=m/\q<l.length:=by
 have hlt:q<l.length:=by
  rcases Nat.lt_or_ge q l.length with h2|h2
  ·exact h2
  ·rw[List.drop_eq_nil_of_le h2]at h;cases h
 rw[ev hlt]at h;injection h with h1 h2;exact⟨by rw[bs hlt,h1],h2,hlt⟩
theorem xi{α:Type}{l a m:List α}{q:Nat}(h:l.drop q=a++m):l.drop (q+a.length)=m:=by
 rw[<-List.drop_drop,h,List.drop_left]
theorem gg.own3{w:World}{base n cap:Nat}{ad:Option Addr}{l:List Int}(hn:n=l.length)(h:w.ownsRow base 3 1 (.slice ad n cap) l.length (ga l)):gg w ad l.length (gi l) w.heap.size:=by
 subst hn;exact(ft.own h).rowI
theorem alu(f:List (Nat->Bool)->Nat->List Int)(n:Nat)(hn:n<=1000)(ns:List QN)(hns:ns.length<=64)(ls:List (List Int))(hls:ls.length<=64)(U:QT):∀(_:jk U=true)(q lf:Nat)(tl:List QN)(tl2:List (List Int)),ns.drop q=ew U++tl->ls.drop lf=((fy (ew U)).map fun p=>f p.1 p.2)++tl2→
 (∀e k,(e,k)∈fy (ew U)->jj (f e k)/\∀x∈f e k,x<(n:Int))->∀(adn:Option Addr)(cn:Nat)(adr:Option Addr)(cr:Nat)(w:World),gd w adn ns->qp w adr ls→
 Calls prog 67 #[.slice adn ns.length cn,.int .i64 (q:Nat),.slice adr ls.length cr,.int .i64 (lf:Nat),.int .i64 (n:Nat)] w (asl (qh f n U) (q+(ew U).length) (lf+(fy (ew U)).length) w):=by
 induction U with
 |find els k=>
  intro _ q lf tl tl2 hd hd2 hf adn cn adr cr w hN hR;simp only[ew,dk,List.nil_append]at hd;obtain⟨hq,-,hlt⟩:=aad hd;have e0:fy (ew (.find els k))=[(els,k)]:=by simp[ew,fy]
  rw[e0]at hd2;simp only[List.map_cons,List.map_nil,dk,List.nil_append]at hd2;obtain⟨hq2,-,hlt2⟩:=aad hd2;have hqi:(q:Int)<=64:=by omega
  have hq0:(0:Int)<=q:=by omega
  have hqn:(q:Int)<ns.length:=by omega
  have hl0:(0:Int)<=lf:=by omega
  have hli:(lf:Int)<=64:=by omega
  have hln:(lf:Int)<ls.length:=by omega
  obtain⟨b0,o,pa,pc,rfl,hbm,f0,f1,f2,f3,-⟩:=hN.at hq;obtain⟨b1,o1,ra,rc,rfl,hbm1,g0,hrw⟩:=hR.at hq2;have hb0:=(aw w.heap.size w).alloc ac (fw 1 0 (.slice pa els.length pc) k);have g0':=(hb0.cell (p:=⟨b1,o1+lf,none⟩) hbm1).trans g0;have HB0:=aa hb0;have HRW:=aa ((hrw.keep (Kt.below hb0)).rowI);have HE0:=aa e0;clear hd hd2 hq hq2 hf hN hR hb0 hrw e0;go_enter func67,ntmps67;go_wp2_with fail
  refine ay (results_tmp3 rfl _ _ _) rfl ⟨ra,rc,?_,HRW.out,HB0.out⟩;rw[HE0.out];rfl
 |and a b iha ihb=>
  intro hp q lf tl tl2 hd hd2 hf adn cn adr cr w hN hR;obtain⟨hpa,hpb⟩:=ah4 hp;simp only[ew,dk,dc]at hd;obtain⟨hq,hd3,hlt⟩:=aad hd;have e0:fy (ew (.and a b))=fy (ew a)++fy (ew b):=by simp only[ew];rw[mf _ _ (by simp),pf]
  rw[e0]at hd2 hf;rw[ep,dc]at hd2;have hfa:∀e k,(e,k)∈fy (ew a)->jj (f e k)/\∀x∈f e k,x<(n:Int):=fun e k h=>hf e k (List.mem_append_left _ h)
  have hfb:∀e k,(e,k)∈fy (ew b)->jj (f e k)/\∀x∈f e k,x<(n:Int):=fun e k h=>hf e k (List.mem_append_right _ h)
  have hd4:=xi hd3;have hd5:=xi hd2;rw[List.length_map]at hd5;have h1:=aa fun w' hN' hR'=>iha hpa (q+1) lf _ _ hd3 hd2 hfa adn cn adr cr w' hN' hR'
  have h2:=aa fun w' hN' hR'=>ihb hpb (q+1+(ew a).length) (lf+(fy (ew a)).length) _ _ hd4 hd5 hfb adn cn adr cr w' hN' hR'
  rw[Int.natCast_succ]at h1;have ra:=rm f n a hfa;have rb:=rm f n b hfb;have la:=kr ra.1 ra.2;have lb:=kr rb.1 rb.2;have h3:=aa fun ad ca ad' cb w' hA hB=>ahz (qh f n a) (qh f n b) ra.1 rb.1 (by omega) (by omega) ad ca ad' cb w' hA hB
  have hqi:(q:Int)<=64:=by omega
  have hq0:(0:Int)<=q:=by omega
  have hqn:(q:Int)<ns.length:=by omega
  have e1:(ew (.and a b)).length=1+(ew a).length+(ew b).length:=by simp only[ew,bz,bd];omega
  obtain⟨b0,o,pa,pc,rfl,hbm,f0,f1,f2,f3,-⟩:=hN.at hq;have hb0:=(aw w.heap.size w).alloc ac (fw 2 0 (.slice pa 0 pc) 0);have HX:=aa (At.new w (fw 2 0 (.slice pa 0 pc) 0));have HB0:=aa hb0;have HN:=aa fun w'(hb:Below w.heap.size w w')=>hN.below hb
  have HR:=aa fun w'(hb:Below w.heap.size w w')=>hR.below hb
  have HE0:=aa e0;have HE1:=aa e1;clear hd hd2 hd3 hd4 hd5 hq hf hfa hfb hN hR ra rb hb0 e0 e1 iha ihb hp hpa hpb;simp only[List.length_nil]at f2;go_enter func67,ntmps67;go_wp2_with fail
  go_at_call 67;refine(h1.out _ (HN.out _ HB0.out) (HR.out _ HB0.out)).mono ?_;rintro e w1⟨ad1,c1,rfl,hr1,hb1⟩;have HB1:=aa (HB0.out.trans (hb1.mono HB0.out.size));have hx1:=HX.out.below hb1 HX.out.lt;have k0:=hx1.cell 0;have kl:=hx1.lt;have HX1:=aa hx1;have HR1:=aa hr1;simp only[ak,am]at k0;clear hb1 hx1 hr1 f0 f1 f2 f3;go_wp2_with fail
  go_at_call 67;refine(h2.out _ (HN.out _ HB1.out) (HR.out _ HB1.out)).mono ?_;rintro e w2⟨ad2,c2,rfl,hr2,hb2⟩;have HB2:=aa (HB1.out.trans (hb2.mono HB1.out.size));have hx2:=HX1.out.below hb2 HX1.out.lt;have HR12:=aa ((HR1.out.below hb2 ac).mono hb2.size);have g0:=hx2.cell 0;have gl:=hx2.lt;have HR2:=aa hr2;simp only[ak,am]at g0;clear hb2 hx2 hr2 k0 kl;go_wp2_with fail
  go_at_call 128;refine(h3.out ad1 c1 ad2 c2 w2 HR12.out HR2.out).mono ?_;rintro e w3⟨v3,rfl,ho3,hb3⟩;obtain⟨ad3,c3,rfl⟩:=ey ho3;have HR3:Hid (gg w3 ad3 (qh f n (.and a b)).length (gi (qh f n (.and a b))) w3.heap.size):=aa ((ft.own ho3).rowI);clear ho3;have HB3:=aa (HB2.out.trans (hb3.mono HB2.out.size));go_wp2_with fail
  have i1:(q:Int)+1+(ew a).length+(ew b).length=((q+(ew (.and a b)).length:Nat):Int):=by rw[HE1.out];omega
  have i2:(lf:Int)+(fy (ew a)).length+(fy (ew b)).length=((lf+(fy (ew (.and a b))).length:Nat):Int):=by rw[HE0.out,bd];omega
  refine ay (results_tmp3 rfl _ _ _) rfl ⟨ad3,c3,?_,HR3.out,HB3.out⟩;rw[<-i1,<-i2];rfl
 |or a b iha ihb=>
  intro hp q lf tl tl2 hd hd2 hf adn cn adr cr w hN hR;obtain⟨hpa,hpb⟩:=amj hp;simp only[ew,dk,dc]at hd;obtain⟨hq,hd3,hlt⟩:=aad hd;have e0:fy (ew (.or a b))=fy (ew a)++fy (ew b):=by simp only[ew];rw[mf _ _ (by simp),pf]
  rw[e0]at hd2 hf;rw[ep,dc]at hd2;have hfa:∀e k,(e,k)∈fy (ew a)->jj (f e k)/\∀x∈f e k,x<(n:Int):=fun e k h=>hf e k (List.mem_append_left _ h)
  have hfb:∀e k,(e,k)∈fy (ew b)->jj (f e k)/\∀x∈f e k,x<(n:Int):=fun e k h=>hf e k (List.mem_append_right _ h)
  have hd4:=xi hd3;have hd5:=xi hd2;rw[List.length_map]at hd5;have h1:=aa fun w' hN' hR'=>iha hpa (q+1) lf _ _ hd3 hd2 hfa adn cn adr cr w' hN' hR'
  have h2:=aa fun w' hN' hR'=>ihb hpb (q+1+(ew a).length) (lf+(fy (ew a)).length) _ _ hd4 hd5 hfb adn cn adr cr w' hN' hR'
  rw[Int.natCast_succ]at h1;have ra:=rm f n a hfa;have rb:=rm f n b hfb;have la:=kr ra.1 ra.2;have lb:=kr rb.1 rb.2;have h3:=aa fun ad ca ad' cb w' hA hB=>alz (qh f n a) (qh f n b) ra.1 rb.1 (by omega) (by omega) ad ca ad' cb w' hA hB
  have hqi:(q:Int)<=64:=by omega
  have hq0:(0:Int)<=q:=by omega
  have hqn:(q:Int)<ns.length:=by omega
  have e1:(ew (.or a b)).length=1+(ew a).length+(ew b).length:=by simp only[ew,bz,bd];omega
  obtain⟨b0,o,pa,pc,rfl,hbm,f0,f1,f2,f3,-⟩:=hN.at hq;have hb0:=(aw w.heap.size w).alloc ac (fw 3 0 (.slice pa 0 pc) 0);have HX:=aa (At.new w (fw 3 0 (.slice pa 0 pc) 0));have HB0:=aa hb0;have HN:=aa fun w'(hb:Below w.heap.size w w')=>hN.below hb
  have HR:=aa fun w'(hb:Below w.heap.size w w')=>hR.below hb
  have HE0:=aa e0;have HE1:=aa e1;clear hd hd2 hd3 hd4 hd5 hq hf hfa hfb hN hR ra rb hb0 e0 e1 iha ihb hp hpa hpb;simp only[List.length_nil]at f2;go_enter func67,ntmps67;go_wp2_with fail
  go_at_call 67;refine(h1.out _ (HN.out _ HB0.out) (HR.out _ HB0.out)).mono ?_;rintro e w1⟨ad1,c1,rfl,hr1,hb1⟩;have HB1:=aa (HB0.out.trans (hb1.mono HB0.out.size));have hx1:=HX.out.below hb1 HX.out.lt;have k0:=hx1.cell 0;have kl:=hx1.lt;have HX1:=aa hx1;have HR1:=aa hr1;simp only[ak,am]at k0;clear hb1 hx1 hr1 f0 f1 f2 f3;go_wp2_with fail
  go_at_call 67;refine(h2.out _ (HN.out _ HB1.out) (HR.out _ HB1.out)).mono ?_;rintro e w2⟨ad2,c2,rfl,hr2,hb2⟩;have HB2:=aa (HB1.out.trans (hb2.mono HB1.out.size));have hx2:=HX1.out.below hb2 HX1.out.lt;have HR12:=aa ((HR1.out.below hb2 ac).mono hb2.size);have g0:=hx2.cell 0;have gl:=hx2.lt;have HR2:=aa hr2;simp only[ak,am]at g0;clear hb2 hx2 hr2 k0 kl;go_wp2_with fail
  go_at_call 129;refine(h3.out ad1 c1 ad2 c2 w2 HR12.out HR2.out).mono ?_;rintro e w3⟨ad3,c3,rfl,hr3,hb3⟩;have HR3:Hid (gg w3 ad3 (qh f n (.or a b)).length (gi (qh f n (.or a b))) w3.heap.size):=aa hr3;clear hr3;have HB3:=aa (HB2.out.trans (hb3.mono HB2.out.size));go_wp2_with fail
  have i1:(q:Int)+1+(ew a).length+(ew b).length=((q+(ew (.or a b)).length:Nat):Int):=by rw[HE1.out];omega
  have i2:(lf:Int)+(fy (ew a)).length+(fy (ew b)).length=((lf+(fy (ew (.or a b))).length:Nat):Int):=by rw[HE0.out,bd];omega
  refine ay (results_tmp3 rfl _ _ _) rfl ⟨ad3,c3,?_,HR3.out,HB3.out⟩;rw[<-i1,<-i2];rfl
 |not a ih=>
  intro hp;unfold jk at hp;simp[ew]at hp
 |shift m a ih=>
  intro hp;unfold jk at hp;simp[ew]at hp
end
section
set_option maxRecDepth 100000
set_option maxHeartbeats 8000000
open Go.RowKit Go.Shelf
def OccPost(l:List Int)(w:World)(e:Ending)(w':World):Prop:=
 ∃ad c,e=.returned (.slice ad l.length c)/\gg w' ad l.length (gi l) w'.heap.size/\Below w.heap.size w w'
def asq(l:List Int)(w:World)(e:Ending)(w':World):Prop:=
 ∃ad c,e=.returned (.tuple #[.slice ad l.length c,.bool true])/\gg w' ad l.length (gi l) w'.heap.size/\Below w.heap.size w w'
theorem al6(f:List (Nat->Bool)->Nat->List Int)(n:Nat)(hn:n<=1000)(T:QT)(hE:∀x∈ew T,x.els.length<=2000)(hrT:ir T=true)(hp:jk T=true)
 (hf:∀e k,(e,k)∈fy (ew T)->jj (f e k)/\∀x∈f e k,x<(n:Int)) (adn adr:Option Addr) (cn cr:Nat) (w:World) (hN:gd w adn (ew T)) (hR:qp w adr ((fy (ew T)).map fun p=>f p.1 p.2)):
 Calls prog 32 #[.slice adn (ew T).length cn,.slice adr (fy (ew T)).length cr,.int .i64 (n:Nat)] w (asq (qh f n T) w):=by
 have hl64:=m9 hrT;have hll:=se (ew T);have hml:((fy (ew T)).map fun p=>f p.1 p.2).length=(fy (ew T)).length:=List.length_map _;have HN:=aa fun w'(hb:Below w.heap.size w w')=>hN.below hb
 have HR:=aa fun w'(hb:Below w.heap.size w w')=>hR.below hb
 have h1:=aa fun w' h=>afa T hE hrT adn cn w' h
 have h2:=aa fun w' h=>yr (ew T) (by omega) adn cn w' h
 have h3:=aa fun w' hN' hR'=>alu f n hn (ew T) hl64 ((fy (ew T)).map fun p=>f p.1 p.2) (by omega) T hp 0 0 [] [] (by simp) (by simp) hf adn cn adr cr w' hN' hR'
 rw[hml,dg,dg,show((0:Nat):Int)=0 from rfl]at h3;have HF:Hid (∀l∈(fy (ew T)).map (fun p=>f p.1 p.2),jj l/\(l.length:Int)<=100000):=aa fun l hl=>by
  obtain⟨⟨e,k⟩,hm,rfl⟩:=List.mem_map.1 hl;have h:=hf e k hm;have:(f e k).length<=n:=kr h.1 h.2;exact⟨h.1,show((f e k).length:Int)<=100000 by omega⟩
 have h4:=aa fun(l:List Int)hl1 hl2 ad cap w' h=>mn l hl1 hl2 ad cap w' h
 have hLi:((fy (ew T)).length:Int)<=64:=by omega
 have HML:=aa hml;clear hN hR hf hE hrT hp hml;go_enter func32,ntmps32;go_wp2_with(first|(go_at_call 65;(with_reducible refine(h1.out w (HN.out w ae)).mono ?_);rintro e w1⟨rfl,hb1⟩;have B1:=aa hb1;clear hb1)|(go_at_call 30;(with_reducible refine(h2.out w1 (HN.out w1 B1.out)).mono ?_);rintro e w2⟨lv2,lvs2,rfl,ho2,-,hb2⟩;obtain⟨b2,cap2,rfl⟩:=ey ho2;have B2:=aa (B1.out.trans (hb2.mono B1.out.size));clear ho2 hb2))
 go_loopw[8] (fun i wr=>∃q:Nat,q<=(fy (ew T)).length/\i=.int .i64 (q:Nat)/\Below w.heap.size w wr) (fun i _=>(fy (ew T)).length-(intOf i).toNat)
 case atStart=>exact⟨0,cx _,rfl,B2.out⟩
 case round=>
  obtain⟨q,hq,rfl,hb⟩:=hrel;have Hb:=aa hb;clear hb;by_cases hlt:q<(fy (ew T)).length
  ·have hlti:(q:Int)<(fy (ew T)).length:=by omega
   have hq0:(0:Int)<=q:=by omega
   obtain⟨l,hl⟩:∃l,((fy (ew T)).map fun p=>f p.1 p.2)[q]?=some l:=⟨_,bs (by rw[HML.out];exact hlt)⟩;obtain⟨b,o,pa,pc,rfl,hbm,e0,hrw⟩:=(HR.out wr Hb.out).at hl;have hm:=HF.out l (dm hl);have hcall:=aa (h4.out l hm.1 hm.2 pa pc wr hrw.rowI);clear hl hrw hm;go_wp2_with(go_at_call 66;(with_reducible refine hcall.out.mono ?_);rintro e w3⟨rfl,hb3⟩;have B3:=aa (Hb.out.trans (hb3.mono Hb.out.size));clear hb3)
   go_roundw
   case rel=>exact⟨q+1,by omega,by go_num,B3.out⟩
   case measure=>simp[intOf];omega
  ·obtain rfl:q=(fy (ew T)).length:=by omega
   have q1:=aa (h3.out wr (HN.out wr Hb.out) (HR.out wr Hb.out));go_wp2_with(go_at_call 67;(with_reducible refine q1.out.mono ?_);rintro e w3⟨ad3,c3,rfl,hr3,hb3⟩;have B3:=aa (Hb.out.trans (hb3.mono Hb.out.size));have R3:=aa hr3;clear hb3 hr3)
   go_ret2
   exact⟨ad3,c3,rfl,R3.out,B3.out⟩
theorem apo(t:ByteArray)(ht:t.size<=1000)(m:Nat)(hm:m<=t.size)(T:QT)(hE:∀x∈ew T,x.els.length<=2000)(hrT:ir T=true)(hp:jk T=true)(adn:Option Addr)(cn:Nat)(w:World)(hN:gd w adn (ew T)):
 Calls prog 11 #[.slice adn (ew T).length cn,.string (t.extract 0 m)] w (OccPost (qh (fTo t m) m T) w):=by
 have hl64:=m9 hrT;have hll:=se (ew T);have hsz:(t.extract 0 m).size=m:=by rw[ByteArray.size_extract];omega
 obtain⟨s,hs⟩:∃s,s=t.extract 0 m:=⟨_,rfl⟩;rw[<-hs]at hsz⊢;have HN:=aa fun w'(hb:Below w.heap.size w w')=>hN.below hb
 have h1:=aa (yr (ew T) (by omega) adn cn w hN);have h2:Hid (∀p∈fy (ew T),∀ad cap w',ft w' 100 ad p.1.length (ji p.1)->Calls prog 31 #[lv ad p.1.length cap (p.2:Nat),.string s] w' fun e w''=>∃v,e=.returned v/\w''.ownsRow w'.heap.size 3 1 v (fTo t m p.1 p.2).length (ga (fTo t m p.1 p.2))/\Below w'.heap.size w' w''):=aa fun p hp ad cap w' h=>by
  have hr:=j6 hrT (show(p.1,p.2)∈_ from hp);have hr2:=hr;unfold fv at hr2;simp only[ce,cg]at hr2;have h3:=al9 ad p.1.length cap (p.2:Nat) (gc p.1) (by omega) s (by omega) w' h.rowC;have he:abg s p.1.length (gc p.1) (p.2:Nat)=fTo t m p.1 p.2:=by
   rw[aej,hs];exact amy t p.1.length (gc p.1) (p.2:Nat) hr m hm
  rw[he]at h3;exact h3
 have h3:=aa fun adr cr w' hN' hR'=>al6 (fTo t m) m (by omega) T hE hrT hp (fun e k hek=>abh t m e k (by
  have:=j6 hrT hek
  unfold fv at this
  simp only[ce,cg]at this
  exact this.1)) adn adr cn cr w' hN' hR'
 have hsi:(s.size:Int)=m:=by omega
 have hmi:(m:Int)<=1000:=by omega
 have hLi:((fy (ew T)).length:Int)<=64:=by omega
 have HS:=aa hsz;clear hs hN hrT hE hp hsz;go_enter func11,ntmps11;go_wp2_with(go_at_call 30;(with_reducible refine h1.out.mono ?_);rintro e w1⟨lv1,lvs1,rfl,ho1,hv1,hb1⟩;obtain⟨la,lc,rfl⟩:=ey ho1;have B1:=aa hb1;have HL:=aa (show ub w1 la (fy (ew T))from⟨lvs1,ft.own ho1,hv1⟩);clear ho1 hv1 hb1)
 go_loopw[6,7] (fun v i wr=>∃(q:Nat)(ad:Option Addr)(c:Nat)(vs:List Value),q<=(fy (ew T)).length/\v=.slice ad q c/\i=.int .i64 (q:Nat)/\wr.ownsRow w1.heap.size 24 1 (.slice ad q c) q vs/\f9 (xr wr) (((fy (ew T)).take q).map fun p=>fTo t m p.1 p.2) vs/\Below w1.heap.size w1 wr) (fun _ i _=>(fy (ew T)).length-(intOf i).toNat)
 case atStart=>exact⟨0,none,0,[],cx _,rfl,rfl,bj _ _ _ _,.nil,ae⟩
 case round=>
  obtain⟨q,ad,c,vs,hq,rfl,rfl,ho,hv,hb⟩:=hrel;have Ho:=aa ho;have Hv:=aa hv;have Hb:=aa hb;clear ho hv hb;by_cases hlt:q<(fy (ew T)).length
  ·have hlti:(q:Int)<(fy (ew T)).length:=by omega
   have hq0:(0:Int)<=q:=by omega
   obtain⟨p,hp⟩:∃p,(fy (ew T))[q]?=some p:=⟨_,bs hlt⟩;obtain⟨b,o,pa,pc,rfl,hbm,e0,e1,hrw⟩:=(HL.out.below Hb.out).at hp;have hcall:=aa (h2.out p (dm hp) pa pc wr hrw);have HP:=aa hp;clear hp hrw;go_wp2_with(first|(go_at_call 31;(with_reducible refine hcall.out.mono ?_);rintro e w3⟨v3,rfl,ho3,hb3⟩;obtain⟨a3,c3,rfl⟩:=ey ho3;have HO3:=aa ho3;have B3:=aa (Hb.out.trans (hb3.mono Hb.out.size));have Ho3:=aa (fe Ho.out hb3);have Hv3:=aa (ip Hv.out (Kt.below hb3));clear ho3 hb3)|(at_builtin;refine gr ai5 rfl _ _ rfl rfl Ho3.out [.slice a3 (fTo t m p.1 p.2).length c3] (by simp[go_sem]) rfl (by simp[Value.oneCell']) (by unfold maxLen;omega) (by omega) B3.out.size ?_;intro v4 w4 hown4 hb4 hk4;obtain⟨a4,c4,rfl⟩:=ey hown4;have HO4:=aa hown4;have B4:=aa (B3.out.trans hb4);have HV4:=aa ((ip Hv3.out (hk4 3 (by decide))).append (f9.one ⟨a3,c3,rfl,o8 HO3.out,(ft.own HO3.out).keep (hk4 3 (by decide))⟩));clear hown4 hb4 hk4))
   go_roundw
   case rel=>
    refine⟨q+1,a4,c4,_,by omega,rfl,by go_num,HO4.out,?_,B4.out⟩;rw[List.take_add_one,HP.out,ep];exact HV4.out
   case measure=>simp[intOf];omega
  ·obtain rfl:q=(fy (ew T)).length:=by omega
   have hbw:=B1.out.trans (Hb.out.mono B1.out.size);have q1:=aa (h3.out ad c wr (HN.out wr hbw) ⟨vs,by rw[List.length_map];exact ft.own Ho.out,by have:=Hv.out;rwa[dr]at this⟩);have Hbw:=aa hbw;clear hbw;go_wp2_with(go_at_call 32;(with_reducible refine q1.out.mono ?_);rintro e w3⟨ad3,c3,rfl,hr3,hb3⟩;have B3:=aa (Hbw.out.trans (hb3.mono Hbw.out.size));have R3:=aa hr3;clear hb3 hr3)
   go_ret;exact⟨ad3,c3,rfl,R3.out,B3.out⟩
end
section
set_option maxRecDepth 100000
set_option maxHeartbeats 8000000
open Go.RowKit Go.Shelf
abbrev cfgV(F sz limit most:Int)(pv:Value)(fl:Int):Value:=.agg #[.int .i64 F,.int .i64 sz,.int .i64 limit,.int .i64 most,pv,.int .i64 fl]
abbrev xo(F sz limit most:Int)(pv:Value)(fl:Int)(ty:TypeId):Obj:=.cells #[.int .i64 F,.int .i64 sz,.int .i64 limit,.int .i64 most,pv,.int .i64 fl] ty
theorem few_any(s t:ByteArray)(F sz limit most fl:Int)(pad:Option Addr)(n pcap:Nat)(w:World):
 Calls prog 5 #[.string s,.string t,cfgV F sz limit most (.slice pad n pcap) fl] w fun e w'=>e=.returned (.bool (decide ((s.size:Int)<=1100)&&(decide ((t.size:Int)<=200)&&decide ((n:Int)<=300))))/\Below w.heap.size w w':=by
 have hb:=(aw w.heap.size w).alloc ac (xo F sz limit most (.slice pad n pcap) fl 26);have HB:=aa hb;clear hb;cases h1:decide ((s.size:Int)<=1100)<;>cases h2:decide ((t.size:Int)<=200)<;>cases h3:decide ((n:Int)<=300);all_goals(go_enter func5,ntmps5)
 all_goals(go_wp2_with fail)
 all_goals(go_ret)
 all_goals(exact⟨rfl,HB.out⟩)
def ass(ps:List Int)(F sz limit most fl:Int)(w:World)(e:Ending)(w':World):Prop:=
 ∃ad c,e=.returned (cfgV F sz limit most (.slice ad ps.length c) fl)/\gg w' ad ps.length (gi ps) w'.heap.size/\Below w.heap.size w w'
theorem aqy(ps:List Int)(hps:ps.length<=1000)(F sz limit most fl:Int)(pad:Option Addr)(pcap:Nat)(w:World)(hR:gg w pad ps.length (gi ps) w.heap.size):
 Calls prog 9 #[cfgV F sz limit most (.slice pad ps.length pcap) fl] w (ass ps F sz limit most fl w):=by
 have HR:=aa hR;have hpi:(ps.length:Int)<=1000:=by omega
 clear hR;go_enter func9,ntmps9;go_wp2_with fail
 have hb1:=(aw w.heap.size w).alloc ac (xo F sz limit most (.slice pad ps.length pcap) fl 26);have hX:=(At.new w (xo F sz limit most (.slice pad ps.length pcap) fl 26)).alloc (xo 0 0 0 0 (.slice none 0 0) 0 37);have hY:=At.new (w.alloc (xo F sz limit most (.slice pad ps.length pcap) fl 26)) (xo 0 0 0 0 (.slice none 0 0) 0 37);rw[bg]at hY;have hb2:=hb1.alloc (by simp) (xo 0 0 0 0 (.slice none 0 0) 0 37);have HR2:=aa ((HR.out.below hb2 ac).mono hb2.size);have HX:=aa hX;have HY:=aa hY;have HB2:=aa hb2;clear hX hY hb1 hb2;generalize (w.alloc (xo F sz limit most (.slice pad ps.length pcap) fl 26)).alloc (xo 0 0 0 0 (.slice none 0 0) 0 37)=W1 at *;have SS:Hid (∀w',At w' w.heap.size (xo F sz limit most (.slice pad ps.length pcap) fl 26)->w'.cell? ⟨w.heap.size,0,none⟩=some (.int .i64 F)/\w'.cell? ⟨w.heap.size,1,none⟩=some (.int .i64 sz)/\w'.cell? ⟨w.heap.size,2,none⟩=some (.int .i64 limit)/\w'.cell? ⟨w.heap.size,3,none⟩=some (.int .i64 most)/\w'.cell? ⟨w.heap.size,4,none⟩=some (.slice pad ps.length pcap)/\w'.cell? ⟨w.heap.size,5,none⟩=some (.int .i64 fl)):=aa fun w' h=>⟨h.cell 0,h.cell 1,h.cell 2,h.cell 3,h.cell 4,h.cell 5⟩
 refine wp_region_held_drew (S:=fun w'=>w'.cell? ⟨w.heap.size,0,none⟩=some (.int .i64 F)/\w'.cell? ⟨w.heap.size,1,none⟩=some (.int .i64 sz)/\w'.cell? ⟨w.heap.size,2,none⟩=some (.int .i64 limit)/\w'.cell? ⟨w.heap.size,3,none⟩=some (.int .i64 most)/\w'.cell? ⟨w.heap.size,4,none⟩=some (.slice pad ps.length pcap)/\w'.cell? ⟨w.heap.size,5,none⟩=some (.int .i64 fl)) (by kernel_rfl) (SS.out _ (show At W1.drew w.heap.size _ from HX.out)) (fun hS=>?_);refine tk 0 3 (.pointer (some ⟨w.heap.size,0,none⟩)) hS ?_;refine tk 1 4 (.agg #[.int .i64 F,.int .i64 sz]) hS ?_;refine tk 2 5 (.pointer (some ⟨w.heap.size,2,none⟩)) hS ?_;refine tk 3 6 (.int .i64 limit) hS ?_;refine tk 4 7 (.pointer (some ⟨w.heap.size,3,none⟩)) hS ?_;refine tk 5 8 (.int .i64 most) hS ?_;refine tk 7 10 (.pointer (some ⟨w.heap.size,4,none⟩)) hS ?_;refine tk 8 11 (.slice pad ps.length pcap) hS ?_;refine tk 10 13 (.pointer (some ⟨w.heap.size,5,none⟩)) hS ?_;refine tk 11 14 (.int .i64 fl) hS ?_;have hbA:=((aw W1.heap.size W1).drew).alloc ac (.cells #[] 3);have HBA:=aa hbA;have HL:=aa (World.ownsRow_lit (base:=W1.heap.size) (e:=3) (size:=1) W1.drew #[] 0 ac (by unfold maxLen;omega) rfl);have HNw:Hid (ag0 (W1.drew.alloc (.cells #[] 3)) pad ps.length (ga ps)):=aa (by
  rcases(HR2.out.below hbA ac).rd hbA.size with h|⟨b,o,h,-,hc⟩
  ·exact .inl h
  ·exact .inr ⟨b,o,h,hc⟩)
 have hil:(ga ps).length=ps.length*1:=by rw[iw];omega
 have hi1:∀u∈ga ps,u.oneCell'=true:=by intro u hu;obtain⟨x,_,rfl⟩:=List.mem_map.1 hu;rfl
 refine mw 6 (fun Kc hK=>?_);go_simp;refine hK.out _ _ (SS.out _ (HX.out.below hbA HX.out.lt)) (fun hH=>?_);try simp only[Act.put,ag,ai,aj]
 clear hK Kc;refine mw 9 (o:={dst:=some 12,op:=.call {callee:=.builtin .append,args:=#[.tmp 9,.tmp 11],argTypes:=#[24,24]},type:=24,pos:= "law.go:29",after:=_,guard:=none}) (fun Kc hK=>?_);refine ij iv (by with_reducible rfl) (.tmp 9) (.tmp 11) (by with_reducible rfl) (by rfl) HL.out (by rfl) HNw.out hil hi1 (by unfold maxLen;omega) (by omega) hbA.size ?_;intro v3 w3 ho3 hb3 _ _ _;rw[dg]at ho3;obtain⟨a3,c3,rfl⟩:=ey ho3;have HO3:=aa ho3;have hb13:Below W1.heap.size W1 w3:=HBA.out.trans hb3;have HB13:=aa hb13;have HX3:=aa (HX.out.below hb13 HX.out.lt);have HY3:=aa (HY.out.below hb13 HY.out.lt);have y0:=HY3.out.free 0;have y1:=HY3.out.free 1;have y2:=HY3.out.free 2;have y3:=HY3.out.free 3;have y4:=HY3.out.free 4;have y5:=HY3.out.free 5;have c0:=HY3.out.cell 0;have c1:=HY3.out.cell 1;have c2:=HY3.out.cell 2;have c3':=HY3.out.cell 3;have c4:=HY3.out.cell 4;have c5:=HY3.out.cell 5;have yl:=HY3.out.lt;simp only[ak,am,au]at c0 c1 c2 c3' c4 c5;clear ho3 hb3 hb13 hbA;refine hK.out _ _ (SS.out _ HX3.out) (fun hH=>?_);try simp only[Act.put,ag,ai,aj]
 clear hK Kc;refine mw 12 (fun Kc hK=>?_);go_simp;refine hK.out _ _ (SS.out _ HX3.out) (fun hH=>?_);try simp only[Act.put,ag,ai,aj]
 clear hK Kc;refine mw 13 (fun Kc hK=>?_);go_simp;have HXf:Hid (At ((((((w3.setCell ⟨w.heap.size+1,0,none⟩ (.int .i64 F)).setCell ⟨w.heap.size+1,1,none⟩ (.int .i64 sz)).setCell ⟨w.heap.size+1,2,none⟩ (.int .i64 limit)).setCell ⟨w.heap.size+1,3,none⟩ (.int .i64 most)).setCell ⟨w.heap.size+1,4,none⟩ (.slice a3 ps.length c3)).setCell ⟨w.heap.size+1,5,none⟩ (.int .i64 fl)) w.heap.size (xo F sz limit most (.slice pad ps.length pcap) fl 26)):=aa ((((((HX3.out.far (p:=⟨w.heap.size+1,0,none⟩) (Nat.succ_ne_self _) (.int .i64 F)).far (p:=⟨w.heap.size+1,1,none⟩) (Nat.succ_ne_self _) (.int .i64 sz)).far (p:=⟨w.heap.size+1,2,none⟩) (Nat.succ_ne_self _) (.int .i64 limit)).far (p:=⟨w.heap.size+1,3,none⟩) (Nat.succ_ne_self _) (.int .i64 most)).far (p:=⟨w.heap.size+1,4,none⟩) (Nat.succ_ne_self _) (.slice a3 ps.length c3)).far (p:=⟨w.heap.size+1,5,none⟩) (Nat.succ_ne_self _) (.int .i64 fl));have HYf:Hid (At ((((((w3.setCell ⟨w.heap.size+1,0,none⟩ (.int .i64 F)).setCell ⟨w.heap.size+1,1,none⟩ (.int .i64 sz)).setCell ⟨w.heap.size+1,2,none⟩ (.int .i64 limit)).setCell ⟨w.heap.size+1,3,none⟩ (.int .i64 most)).setCell ⟨w.heap.size+1,4,none⟩ (.slice a3 ps.length c3)).setCell ⟨w.heap.size+1,5,none⟩ (.int .i64 fl)) (w.heap.size+1) (xo F sz limit most (.slice a3 ps.length c3) fl 37)):=aa ((((((HY3.out.set 0 (.int .i64 F)).set 1 (.int .i64 sz)).set 2 (.int .i64 limit)).set 3 (.int .i64 most)).set 4 (.slice a3 ps.length c3)).set 5 (.int .i64 fl));have HEf:Hid (Ex [w.heap.size+1] w3 ((((((w3.setCell ⟨w.heap.size+1,0,none⟩ (.int .i64 F)).setCell ⟨w.heap.size+1,1,none⟩ (.int .i64 sz)).setCell ⟨w.heap.size+1,2,none⟩ (.int .i64 limit)).setCell ⟨w.heap.size+1,3,none⟩ (.int .i64 most)).setCell ⟨w.heap.size+1,4,none⟩ (.slice a3 ps.length c3)).setCell ⟨w.heap.size+1,5,none⟩ (.int .i64 fl))):=aa ((Ex.refl [w.heap.size+1] w3).set (w.heap.size+1) 0 (.int .i64 F) (by simp)|>.set (w.heap.size+1) 1 (.int .i64 sz) (by simp)|>.set (w.heap.size+1) 2 (.int .i64 limit) (by simp)|>.set (w.heap.size+1) 3 (.int .i64 most) (by simp)|>.set (w.heap.size+1) 4 (.slice a3 ps.length c3) (by simp)|>.set (w.heap.size+1) 5 (.int .i64 fl) (by simp));refine hK.out _ _ (SS.out _ HXf.out) (fun hH=>?_);try simp only[Act.put,ag,ai,aj]
 clear hK Kc y0 y1 y2 y3 y4 y5 c0 c1 c2 c3' c4 c5 hS hH;refine wpAnyH_done (by kernel_rfl) ?_ _;generalize ((((((w3.setCell ⟨w.heap.size+1,0,none⟩ (.int .i64 F)).setCell ⟨w.heap.size+1,1,none⟩ (.int .i64 sz)).setCell ⟨w.heap.size+1,2,none⟩ (.int .i64 limit)).setCell ⟨w.heap.size+1,3,none⟩ (.int .i64 most)).setCell ⟨w.heap.size+1,4,none⟩ (.slice a3 ps.length c3)).setCell ⟨w.heap.size+1,5,none⟩ (.int .i64 fl))=W5 at *;go_wp2_with fail
 have d0:=HYf.out.cell 0;have d1:=HYf.out.cell 1;have d2:=HYf.out.cell 2;have d3:=HYf.out.cell 3;have d4:=HYf.out.cell 4;have d5:=HYf.out.cell 5;simp only[ak,am,au]at d0 d1 d2 d3 d4 d5;refine ay (v:=cfgV F sz limit most (.slice a3 ps.length c3) fl) (by simp[results,results9,go_sem,d0,d1,d2,d3,d4,d5]) rfl ⟨a3,c3,rfl,?_,?_⟩
 ·have h:=jl (C:=w.heap.size+1) HO3.out HEf.out HY.out.lt
  exact gg.own3 rfl (by simpa using h)
 ·exact(HB2.out.trans (HB13.out.mono HB2.out.size)).trans (HEf.out.below (ba HB2.out.size HB13.out.size) (by simp))
end
section
set_option maxRecDepth 100000
set_option maxHeartbeats 8000000
open Go.RowKit Go.Shelf
def ask(w:World)(e:Ending)(w':World):Prop:=e=.returned (.bool true)/\Below w.heap.size w w'
theorem zu(hal:∀w,Calls prog 6 #[] w fun e w'=>e=.returned (.bool true)/\Below w.heap.size w w')(s t:ByteArray)(F sz limit most fl:Int)(ps:List Int)(pad:Option Addr)(pcap:Nat)(w:World)(hR:gg w pad ps.length (gi ps) w.heap.size):
 Calls prog 3 #[.string s,.string t,cfgV F sz limit most (.slice pad ps.length pcap) fl] w (ask w):=by
 have hal:=aa hal;have h5:=aa fun w'=>few_any s t F sz limit most fl pad ps.length pcap w'
 have HC:=aa (At.new w (xo F sz limit most (.slice pad ps.length pcap) fl 26));have HB0:=aa ((aw w.heap.size w).alloc ac (xo F sz limit most (.slice pad ps.length pcap) fl 26));have HR:=aa hR;clear hR;by_cases hfew:(s.size:Int)<=1100/\(t.size:Int)<=200/\(ps.length:Int)<=300
 ·have hb:(decide ((s.size:Int)<=1100)&&(decide ((t.size:Int)<=200)&&decide ((ps.length:Int)<=300)))=true:=by simp;omega
  rw[hb]at h5;by_cases hf0:fl<0
  ·have hd:decide (fl<0)=true:=cw hf0
   clear hb;go_enter func3,ntmps3;go_wp2_with(go_at_call 5;refine(h5.out _).mono ?_;rintro e w1⟨rfl,hb1⟩;have HB:=aa (HB0.out.trans (hb1.mono HB0.out.size));have hc:=HC.out.below hb1 HC.out.lt;have c5:=hc.cell 5;have cl:=hc.lt;simp only[ak,am,au]at c5;clear hc hb1)
   go_at_call 6;refine(hal.out _).mono ?_;rintro e w9⟨rfl,hb9⟩;have HB9:=aa (HB.out.trans (hb9.mono HB.out.size));go_wp2_with fail
   go_ret;exact⟨rfl,HB9.out⟩
  by_cases hf1:(t.size:Int)<fl
  ·have hd0:decide (fl<0)=false:=bv hf0
   have hd:decide ((t.size:Int)<fl)=true:=cw hf1;clear hb;go_enter func3,ntmps3;go_wp2_with(go_at_call 5;refine(h5.out _).mono ?_;rintro e w1⟨rfl,hb1⟩;have HB:=aa (HB0.out.trans (hb1.mono HB0.out.size));have hc:=HC.out.below hb1 HC.out.lt;have c5:=hc.cell 5;have cl:=hc.lt;simp only[ak,am,au]at c5;clear hc hb1)
   go_at_call 6;refine(hal.out _).mono ?_;rintro e w9⟨rfl,hb9⟩;have HB9:=aa (HB.out.trans (hb9.mono HB.out.size));go_wp2_with fail
   go_ret;exact⟨rfl,HB9.out⟩
  obtain⟨to,rfl⟩:=eu (show 0<=fl by omega);have hto:to<=t.size:=by omega
  have hts:t.size<=200:=by omega
  have hpl:ps.length<=300:=by omega
  have hd0:decide (((to:Nat):Int)<0)=false:=bv hf0;have hd1:decide ((t.size:Int)<((to:Nat):Int))=false:=bv hf1;have hti:(t.size:Int)<=200:=by omega
  have hto0:(0:Int)<=to:=by omega
  have htoi:(to:Int)<=t.size:=by omega
  have h7:=aa fun w'=>ahl s w'
  have h9:=aa fun w' h=>aqy ps (by omega) F sz limit most (to:Nat) pad pcap w' h
  have h8:=aa fun ad c w' h=>ajr (ov s) False s t (by omega) ps (by omega) (to:Nat) 2 to hto (.inl ⟨rfl,rfl⟩) F sz limit most ad c (fun _ hT=>hT.els) (afs (ov s) False s t F sz limit most (to:Nat) (.slice ad ps.length c) (amr s) (fun _ hT=>hT.els) False.elim) w' h
  clear hb hfew hf0 hf1;go_enter func3,ntmps3;go_wp2_with(go_at_call 5;refine(h5.out _).mono ?_;rintro e w1⟨rfl,hb1⟩;have HB:=aa (HB0.out.trans (hb1.mono HB0.out.size));have HC1:=aa (HC.out.below hb1 HC.out.lt);have c5:=HC1.out.cell 5;have cl:=HC1.out.lt;simp only[ak,am,au]at c5;clear hb1)
  go_at_call 7;refine(h7.out _).mono ?_;rintro e w2⟨v2,a2,no,rfl,hb2,hc2⟩;have HB2:=aa (HB.out.trans (hb2.mono HB.out.size));have HC2:=aa (HC1.out.below hb2 HC1.out.lt);have g0:=HC2.out.cell 0;have g1:=HC2.out.cell 1;have g2:=HC2.out.cell 2;have g3:=HC2.out.cell 3;have g4:=HC2.out.cell 4;have g5:=HC2.out.cell 5;have gl:=HC2.out.lt;simp only[ak,am,au]at g0 g1 g2 g3 g4 g5;have HN2:=aa hc2;clear hb2 hc2 c5 cl;go_wp2_with fail
  go_at_call 9;refine(h9.out w2 ((HR.out.below HB2.out ac).mono HB2.out.size)).mono ?_;rintro e w3⟨a3,c3,rfl,hr3,hb3⟩;have HB3:=aa (HB2.out.trans (hb3.mono HB2.out.size));have HC3:=aa (HC2.out.below hb3 HC2.out.lt);have HB23:=aa hb3;have H8:=aa (h8.out a3 c3 w3 hr3);clear hb3 hr3 g0 g1 g2 g3 g4 g5 gl;go_wp2_with fail
  go_at_call 8;refine H8.out.mono ?_;rintro e w4⟨v4,l,a4,c,rfl,hb4,ho4,hT4'⟩;have hc0:c≠0:=by rcases hT4' with h|⟨_,h,_⟩;exact h.1;rw[h];decide
  have hT4:c=200->∃T,ov s T/\ir T=true/\l=zn T t to 2:=fun h=>by
   rcases hT4' with k|⟨_,_,k⟩
   ·exact absurd h k.2.1
   ·exact k
  clear hT4';obtain⟨la,lc,rfl⟩:=ey ho4;have HB4:=aa (HB3.out.trans (hb4.mono HB3.out.size));have HC4:=aa (HC3.out.below hb4 HC3.out.lt);have HB24:=aa (HB23.out.trans (hb4.mono HB23.out.size));have HO4:=aa ho4;have hcz:(c==0)=false:=by rw[ax];exact hc0
  have hcn:(c !=0)=true:=by rw[bne,hcz];rfl
  clear hb4 ho4 H8;by_cases hno:no=0
  ·by_cases hc2:c=200
   ·subst hno
    subst hc2;obtain⟨T,vs,hP,hlT,ho2,hv2⟩:∃T vs,ov s T/\(ew T).length<=64/\w2.ownsRow w1.heap.size 81 4 v2 (ew T).length vs/\f9 (ju w2) (ew T) vs:=by
     rcases HN2.out with h|⟨_,h⟩
     ·exact absurd rfl h
     ·exact h
    obtain⟨T',hP',hrT,hl⟩:=hT4 rfl;obtain rfl:T'=T:=hP'.uniq hP;obtain⟨aq,cq,rfl⟩:=ey ho2;have HN:=aa fun w'(hb:Below w2.heap.size w2 w')=>(gd.own ho2 hv2).below hb
    have hE:∀x∈ew T',x.els.length<=2000:=fun x hx=>ba (hP.els x hx) (by omega)
    have q10:=aa fun w' h=>ahk T' (by omega) aq cq w' h
    clear hcz hcn hc0 hT4 HN2 ho2 hv2 hP hP';cases hp:jk T'
    ·rw[hp]at q10
     have hl0:l.length=0:=by rw[hl];unfold zn;rw[hp];rfl
     clear hl hp;go_wp2_with(go_at_call 10;(with_reducible refine(q10.out w4 (HN.out w4 HB24.out)).mono ?_);rintro e w5⟨rfl,hb5⟩;have HB5:=aa (HB4.out.trans (hb5.mono HB4.out.size));clear hb5)
     go_at_call 6;refine(hal.out _).mono ?_;rintro e w9⟨rfl,hb9⟩;have HB9:=aa (HB5.out.trans (hb9.mono HB5.out.size));go_wp2_with fail
     go_ret;exact⟨rfl,HB9.out⟩
    ·unfold zn at hl
     rw[if_pos (.inr hp)]at hl;rw[hp]at q10;have q11:=aa fun w' h=>apo t (by omega) to hto T' hE hrT hp aq cq w' h
     rw[<-hl]at q11;have hrise:jj l/\∀x∈l,x<(to:Int):=by
      rw[hl];exact rm (fTo t to) to T' fun e k hek=>abh t to e k (by
       have:=j6 hrT hek
       unfold fv at this
       simp only[ce,cg]at this
       exact this.1)
     have hll:l.length<=to:=kr hrise.1 hrise.2;have hli:(l.length:Int)<=200:=by omega
     have HRise:=aa hrise.1;have HRow4:=aa (ft.own HO4.out).rowI;have d5:=HC4.out.cell 5;have dl:=HC4.out.lt;simp only[ak,am,au]at d5;clear hl hp hE hrT hrise HO4;go_wp2_with(go_at_call 10;(with_reducible refine(q10.out w4 (HN.out w4 HB24.out)).mono ?_);rintro e w5⟨rfl,hb5⟩;have HB5:=aa (HB4.out.trans (hb5.mono HB4.out.size));have HB25:=aa (HB24.out.trans (hb5.mono HB24.out.size));have HC5:=aa (HC4.out.below hb5 HC4.out.lt);have HRow5:=aa ((HRow4.out.below hb5 ac).mono hb5.size);have e5:=HC5.out.cell 5;have el:=HC5.out.lt;simp only[ak,am,au]at e5;clear hb5 d5 dl)
     go_at_call 11;refine(q11.out w5 (HN.out w5 HB25.out)).mono ?_;rintro e w6⟨ad6,c6,rfl,hr6,hb6⟩;have HB6:=aa (HB5.out.trans (hb6.mono HB5.out.size));have HRow6:=aa ((HRow5.out.below hb6 ac).mono hb6.size);have HAll6:=aa hr6;clear hb6 hr6 e5 el;go_wp2_with fail
     go_loopw[14,78] (fun a k wr=>∃q:Nat,q<=l.length/\a=.int .i64 (q:Nat)/\k=.int .i64 (q:Nat)/\Below w6.heap.size w6 wr) (fun _ k _=>l.length-(intOf k).toNat)
     case atStart=>exact⟨0,cx _,rfl,rfl,ae⟩
     case round=>
      obtain⟨q,hq,rfl,rfl,hbw⟩:=hrel;have HBw:=aa hbw;clear hbw;by_cases hlt:q<l.length
      ·obtain⟨b,o,rfl,hbm,x0⟩:=(HRow6.out.below HBw.out ac).at hlt
       obtain⟨b',o',rfl,hbm',y0⟩:=(HAll6.out.below HBw.out ac).at hlt;have hbl:b<wr.heap.size:=az hbm HBw.out.size;have hbl':b'<wr.heap.size:=az hbm' HBw.out.size;have hlti:(q:Int)<l.length:=by omega
       have hq0:(0:Int)<=q:=by omega
       have hqn:((q:Int)==(l.length:Int))=false:=by rw[ax];omega
       obtain⟨x,hx⟩:∃x,x=gi l q:=⟨_,rfl⟩;rw[<-hx]at x0 y0;have HX:=aa hx;clear hx hbm hbm';have hxx:decide (x<x)=false:=by simp
       cases q with
       |zero=>
        rw[Nat.add_zero]at x0 y0;go_wp2_with fail
        refine du 1 ?_;rw[cj];go_wp2_with fail
        go_roundw
        case rel=>exact⟨1,by omega,by go_num,by go_num,HBw.out⟩
        case measure=>simp[intOf];omega
       |succ q=>
        obtain⟨b2,o2,h2,hbm2,z0⟩:=(HRow6.out.below HBw.out ac).at (show q<l.length by omega);cases h2;obtain⟨y,hy⟩:∃y,y=gi l q:=⟨_,rfl⟩;rw[<-hy]at z0;have hyx:y<x:=by rw[hy,HX.out];exact wq HRise.out (Nat.lt_succ_self q) hlt
        have hd2:decide (x<=y)=false:=bv (by omega);have hq1:((q+1:Nat):Int)-1=q:=by omega
        have hqp:(0:Int)<((q+1:Nat):Int):=by omega
        have hqq:(0:Int)<=q:=by omega
        have hql:(q:Int)<l.length:=by omega
        clear hy hbm2;go_wp2_with fail
        refine du 1 ?_;rw[cj];go_wp2_with fail
        go_roundw
        case rel=>exact⟨q+1+1,by omega,by go_num,by go_num,HBw.out⟩
        case measure=>simp[intOf];omega
      ·obtain rfl:q=l.length:=by omega
       have HBz:=aa (HB6.out.trans (HBw.out.mono HB6.out.size));go_wp2_with fail
       refine du 1 ?_;rw[cj];go_wp2_with fail
       go_at_call 6;refine(hal.out _).mono ?_;rintro e w9⟨rfl,hb9⟩;have HB9:=aa (HBz.out.trans (hb9.mono HBz.out.size));go_wp2_with fail
       go_ret;exact⟨rfl,HB9.out⟩
   ·have hcb:(c==200)=false:=by rw[ax];exact hc2
    subst hno;go_wp2_with fail
    go_at_call 6;refine(hal.out _).mono ?_;rintro e w9⟨rfl,hb9⟩;have HB9:=aa (HB4.out.trans (hb9.mono HB4.out.size));go_wp2_with fail
    go_ret;exact⟨rfl,HB9.out⟩
  ·have hnb:(no==0)=false:=by rw[ax];exact hno
   go_wp2_with fail
   go_at_call 6;refine(hal.out _).mono ?_;rintro e w9⟨rfl,hb9⟩;have HB9:=aa (HB4.out.trans (hb9.mono HB4.out.size));go_wp2_with fail
   go_ret;exact⟨rfl,HB9.out⟩
 ·have hb:(decide ((s.size:Int)<=1100)&&(decide ((t.size:Int)<=200)&&decide ((ps.length:Int)<=300)))=false:=by simp;omega
  rw[hb]at h5;clear hb hfew;go_enter func3,ntmps3;go_wp2_with(go_at_call 5;refine(h5.out _).mono ?_;rintro e w1⟨rfl,hb1⟩;have HB:=aa (HB0.out.trans (hb1.mono HB0.out.size));clear hb1)
  go_at_call 6;refine(hal.out _).mono ?_;rintro e w9⟨rfl,hb9⟩;have HB9:=aa (HB.out.trans (hb9.mono HB.out.size));go_wp2_with fail
  go_ret;exact⟨rfl,HB9.out⟩
end
section
set_option maxRecDepth 100000
open Go.ChangeShapes Go.WideShapes Go.ChangeAt Go.RowKit Go.Deep
open Go.ChangeMaps (open_string shut_string)
theorem ase:prog.cellsOf 26=6:=by kernel_rfl
theorem an4:prog.cellsOf 23=2:=by kernel_rfl
theorem an3:prog.cellsOf 24=1:=by kernel_rfl
theorem aq4{α:Type}(l:List α)(h:(⟨l⟩:Array α).size=6):∃a b c d e f,l=[a,b,c,d,e,f]:=by
 match l,h with
 |[a,b,c,d,e,f],_=>exact⟨a,b,c,d,e,f,rfl⟩
theorem am5{α:Type}(l:List α)(h:l.length=5):∃a b c d e,l=[a,b,c,d,e]:=by
 match l,h with
 |[a,b,c,d,e],_=>exact⟨a,b,c,d,e,rfl⟩
section
variable{H:Type}{enc:TypeId×Value->H}{w:World}{base:Nat}{spare:Nat->Bool}{held:Bool}
theorem amw{fuel:Nat}{cs:List Value}{x:DataW H×List MemPlace}(h:DataW.trod enc prog w base spare held fuel 24 cs=some x):
 ∃ad cap ps,cs=[.slice ad ps.length cap]/\gg w ad ps.length (gi ps) w.heap.size:=by
 rcases open_slice1 underlying24 ajc h with⟨hc,_⟩|⟨⟨b,o,s⟩,len,cap,m,k,V,D,Pl,hc,hb,hl,hm,hmm,hx,hV⟩
 ·exact⟨none,0,[],hc,.inl rfl⟩
 ·have hlm:len<=m:=by rw[hmm];split<;>omega
  have hel:∀i,∃x:Int,i<len->s=none/\b<w.heap.size/\w.cell? ⟨b,o+i,none⟩=some (.int .i64 x):=by
   intro i;by_cases hi:i<len
   ·obtain⟨h1,h2⟩:=hV i (by omega)
    obtain⟨x,e1,_,_⟩:=DataW.trod_int underlying3 h2;simp at e1;have hs:s=none:=by simpa[Addr.add]using World.cell?_spot (hV 0 (by omega)).1
    rw[e1,pu hs]at h1;exact⟨x,fun _=>⟨hs,World.block_lt_of_cell? w _ h1,h1⟩⟩
   ·exact⟨0,fun h=>absurd h hi⟩
  obtain⟨A,hA⟩:=Classical.axiomOfChoice hel;have hln:((List.range len).map A).length=len:=by simp
  refine⟨some ⟨b,o,s⟩,cap,(List.range len).map A,by rw[hln];exact hc,?_⟩;rw[hln];rcases ed len with h0|h0
  ·exact .inl h0
  ·obtain⟨rfl,hbl,_⟩:=hA 0 h0
   refine .inr ⟨b,o,rfl,hbl,fun j hj=>?_⟩;have e:gi ((List.range len).map A) j=A j:=by simp[gi,hj]
   rw[e];exact(hA j hj).2.2
theorem aql{v:Value}{d:DataW H}{p:List MemPlace}{b0:Nat}(hv:Value.okWide prog w .any b0 26 v)(h:DataW.Trod enc prog w base spare held 26 v d p):
 ∃F sz limit most fl pad pcap ps,v=cfgV F sz limit most (.slice pad ps.length pcap) fl/\gg w pad ps.length (gi ps) w.heap.size:=by
 obtain⟨cs,rfl,hsz,_⟩:∃cs,v=.agg cs/\cs.size=prog.cellsOf 26/\Row.okWide prog w .any b0 26 cs:=by
  simpa[Value.okWide,underlying26]using hv
 rw[ase]at hsz;obtain⟨l⟩:=cs;obtain⟨c0,c1,c2,c3,c4,c5,rfl⟩:=aq4 l hsz;obtain⟨fuel,hf⟩:=h;obtain⟨xs,n,_,_,_,hlen,hx⟩:=DataW.trod_struct underlying26 (by simpa[Value.cells]using hf);obtain⟨y0,y1,y2,y3,y4,rfl⟩:=am5 xs (by simpa using hlen);have e0:DataW.trod enc prog w base spare held n 23 (([c0,c1,c2,c3,c4,c5].drop 0).take (prog.cellsOf 23))=some y0:=hx 0 _ rfl;have e1:DataW.trod enc prog w base spare held n 3 (([c0,c1,c2,c3,c4,c5].drop 2).take (prog.cellsOf 3))=some y1:=hx 1 _ rfl;have e2:DataW.trod enc prog w base spare held n 3 (([c0,c1,c2,c3,c4,c5].drop 3).take (prog.cellsOf 3))=some y2:=hx 2 _ rfl;have e3:DataW.trod enc prog w base spare held n 24 (([c0,c1,c2,c3,c4,c5].drop 4).take (prog.cellsOf 24))=some y3:=hx 3 _ rfl;have e4:DataW.trod enc prog w base spare held n 3 (([c0,c1,c2,c3,c4,c5].drop 5).take (prog.cellsOf 3))=some y4:=hx 4 _ rfl;rw[an4]at e0;rw[ajc]at e1 e2 e4;rw[an3]at e3;obtain⟨z0,z1,k,_,_,g0,g1⟩:=trod_struct2 underlying23 (by simpa using e0);simp only[ajc]at g0 g1;obtain⟨x0,i0,_,_⟩:=DataW.trod_int underlying3 g0;obtain⟨x1,i1,_,_⟩:=DataW.trod_int underlying3 g1;obtain⟨x2,i2,_,_⟩:=DataW.trod_int underlying3 e1;obtain⟨x3,i3,_,_⟩:=DataW.trod_int underlying3 e2;obtain⟨ad,cap,ps,i4,hR⟩:=amw e3;obtain⟨x5,i5,_,_⟩:=DataW.trod_int underlying3 e4;simp at i0 i1 i2 i3 i4 i5;subst i0 i1 i2 i3 i4 i5;exact⟨x0,x1,x2,x3,x5,ad,cap,ps,rfl,hR⟩
end
theorem wg(os:Os)(started:os.Started)(H:Type)(enc:TypeId×Value->H):
 ReturnsInHanded {} checked os 3 .any (Rows.beagleFailsSpec.pre6 enc prog f3 Rows.beagleFailsRow.domain false) (Rows.beagleFailsSpec.post enc prog f3 false true false false):=by
 refine returnsInHanded_of_change_sized (C:=checked) try_own started (by kernel_rfl) func3
  (ChangeSpec.witness6 (enc:=enc) (C:=checked) false ⟨#[],#[.string ⟨#[]⟩,.string ⟨#[]⟩,.agg #[.int .i64 0,.int .i64 0,.int .i64 0,.int .i64 0,.slice none 0 0,.int .i64 0]],[]⟩ 8 (by kernel_rfl) (by kernel_rfl) (by kernel_rfl) (by kernel_rfl)) ?_
 intro W base args ds gs before hval0 hW hcnd hsz0 _;have hval:∀(j:Nat)t v,f3.params[j]?=some t->args[j]?=some v->Value.okWide prog W .any base t v:=hval0;have hW':=hW;obtain⟨p,q,hA0,hV,rfl,hfz,hnd⟩:=hW;have hA:DataW.TrodAll enc prog W 0 (fun _=>true) true f3.params.toList args.toList ds p:=hA0;rw[params3]at hA hval;obtain⟨v0,vs0,d0,ds0,p0,q0,hargs,rfl,rfl,h0,r0⟩:=trodAll_cons hA;obtain⟨v1,vs1,d1,ds1,p1,q1,rfl,rfl,rfl,h1,r1⟩:=trodAll_cons r0;obtain⟨v2,vs2,d2,ds2,p2,q2,rfl,rfl,rfl,h2,r2⟩:=trodAll_cons r1;obtain⟨rfl,rfl,rfl⟩:=trodAll_nil r2;obtain rfl:args=#[v0,v1,v2]:=by cases args;simp_all
 obtain⟨rfl,rfl⟩:=trodVars_none hV;have k0:=h0;have lt0:∀x∈p0,x.block<W.heap.size:=by obtain⟨m,hm⟩:=k0;exact DataW.trod_lt m _ _ _ hm
 have k1:=h1;have lt1:∀x∈p1,x.block<W.heap.size:=by obtain⟨m,hm⟩:=k1;exact DataW.trod_lt m _ _ _ hm
 have k2:=h2;have lt2:∀x∈p2,x.block<W.heap.size:=by obtain⟨m,hm⟩:=k2;exact DataW.trod_lt m _ _ _ hm
 obtain⟨a0,rfl,_,_,_⟩:=open_string underlying9 (hval 0 9 v0 rfl rfl) h0;obtain⟨a1,rfl,_,_,_⟩:=open_string underlying9 (hval 1 9 v1 rfl rfl) h1;obtain⟨F,sz,limit,most,fl,pad,pcap,ps,rfl,R2⟩:=aql (hval 2 26 v2 rfl rfl) h2;clear hA0 hval0;refine(zu aoc a0 a1 F sz limit most fl ps pad pcap W R2).mono fun e W' ⟨he,bel⟩=>?_
 subst he;exact⟨_,rfl,_,_,_,[],_,[],hW',trodAll_mk1 (shut_bool underlying4 _),(trodAll_cons_mk (Below.trod aak (by kernel_rfl) (of_decide_eq_true (by kernel_rfl)) k0 bel lt0) (trodAll_cons_mk (Below.trod aak (by kernel_rfl) (of_decide_eq_true (by kernel_rfl)) k1 bel lt1) (trodAll_cons_mk (Below.trod aak (by kernel_rfl) (of_decide_eq_true (by kernel_rfl)) k2 bel lt2) trodAll_mk0))),rfl,bel.frame _,fun h=>by cases h⟩
theorem beagleFails_holds:Rows.BeagleFailsSaid:=
 OpenClaim.holds_of_wide 3 f3 rfl rfl rfl rfl rfl rfl rfl ⟨rfl,rfl,rfl,rfl,rfl⟩ rfl rfl rfl rfl rfl (by kernel_rfl) func3
  (by kernel_rfl)
  (of_decide_eq_true (by kernel_rfl)) (by unfold Func.isWrapper;first|(rw[if_pos (by decide+kernel)];kernel_rfl)|(rw[if_neg (by decide+kernel)];exact⟨rfl,rfl⟩))
  (fun os started H enc _=>wg os started H enc)
#print axioms beagleFails_holds
end
end Go.Proofs.YtjfkmoinldlmaaaGreat
