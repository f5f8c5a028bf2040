/- The walk of BeagleFails, part 35. Walk of the scanner's token at any text. Walk of token.Lex at any text. Walks of package set at rising rows. Walks of set.And, Or, Not, Shift at rising rows. -/
import Derived.Test.YtjfkmoinldlmaaaGreatFa34
namespace Go.Proofs.YtjfkmoinldlmaaaGreat
open Go.Proofs.Tryz
section
set_option maxRecDepth 100000
set_option maxHeartbeats 8000000
open Go.RowKit Go.Shelf
abbrev tkO(k a n:Int)(v:Value):Obj:=.cells #[.int .i64 k,.int .i64 a,.int .i64 n,v] 217
def TokPost(C:Nat)(s:ByteArray)(p:Nat)(w:World)(e:Ending)(w':World):Prop:=
 ∃(k a n:Int)(ad:Option Addr)(m cap:Nat),e=.returned (.agg #[.int .i64 k,.int .i64 a,.int .i64 n,.slice ad m cap])/\Ex [C] w w'∧
  (lu w' C s\/∃(t:gq)(q:Nat),At w' C (mj s (q:Nat) 0)/\xq s p t q/\rt w' t [.int .i64 k,.int .i64 a,.int .i64 n,.slice ad m cap])
abbrev put4(w:World)(B:Nat)(a b c d:Value):World:=(((w.setCell ⟨B,0,none⟩ a).setCell ⟨B,1,none⟩ b).setCell ⟨B,2,none⟩ c).setCell ⟨B,3,none⟩ d
theorem At.put4{w:World}{B:Nat}{a b c d:Value}{ty:TypeId}{fz:Nat×Nat}(h:At w B (.cells #[a,b,c,d] ty fz))(a' b' c' d':Value):At (put4 w B a' b' c' d') B (.cells #[a',b',c',d'] ty fz):=
 (((h.set 0 a').set 1 b').set 2 c').set 3 d'
theorem Ex.put4{S:List Nat}{a w:World}(h:Ex S a w)(B:Nat)(hB:B∈S)(x0 x1 x2 x3:Value):Ex S a (put4 w B x0 x1 x2 x3):=
 (((h.set B 0 x0 hB).set B 1 x1 hB).set B 2 x2 hB).set B 3 x3 hB
theorem Kt.two{w w':World}{T R:Nat}{ty t:TypeId}{c1 c2:Array Value}{f1 f2:Nat×Nat}(h:Ex [T,R] w w')(hT:At w T (.cells c1 t f1))(hR:At w R (.cells c2 t f2))(hne:t≠ty:=by decide):Kt ty w w':=
 .ex h fun x hx cur fz e=>by
  have key:∀(B:Nat)cs f,At w B (.cells cs t f)->w.heap[B]?≠some (.cells cur ty fz):=by
   intro B cs f hA he;rw[show w.heap[B]?=some (.cells cs t f)from hA]at he;injection he with he;injection he with h1 h2;exact hne h2
  rcases cz.1 hx with rfl|hx
  ·exact key _ _ _ hT e
  ·rw[cd.1 hx]at e
   exact key _ _ _ hR e
theorem Ex.join{C T R:Nat}{a b c:World}(h:Ex [C] a b)(k:Ex [T,R] b c)(hT:a.heap.size<=T)(hR:a.heap.size<=R):Ex [C] a c:=
 (h.trans k).mono fun x hx=>by
  rcases List.mem_append.1 hx with hx|hx
  ·exact .inl hx
  ·rcases cz.1 hx with rfl|hx
   ·exact .inr hT
   ·rw[cd.1 hx];exact .inr hR
theorem lu.ex{w w':World}{C:Nat}{s:ByteArray}{S:List Nat}(h:lu w C s)(hb:Ex S w w')(hn:C∉S):lu w' C s:=by
 obtain⟨p,e,h1,h2⟩:=h;exact⟨p,e,h1.ex hb hn,h2⟩
theorem ao6(b:Nat)(hb:b<=255)(w:World):Calls prog 205 #[.string ⟨#[40,41,38,124,33,62,126]⟩,.int .u8 (b:Nat)] w fun e w'=>e=.returned (.int .i64 ((j3 b:Int)-1))/\w'=w:=by
 have k:=qa ⟨#[40,41,38,124,33,62,126]⟩ b w;rwa[ark b (by omega)]at k
theorem alj(C:Nat)(s:ByteArray)(p:Nat)(hs:s.size<=1000)(hp:p<s.size)(w:World)(hC:At w C (mj s (p:Nat) 0)):
 Calls prog 156 #[.pointer (some ⟨C,0,none⟩)] w (TokPost C s p w):=by
 have HCl:=aa hC.lt;have hsi:(s.size:Int)<=1000:=by omega
 have hR:=At.new w (tkO 0 0 0 (.slice none 0 0));have hT:=At.new (w.alloc (tkO 0 0 0 (.slice none 0 0))) (tkO 0 p 0 (.slice none 0 0));rw[bg]at hT;have HR2:=aa (hR.alloc (tkO 0 p 0 (.slice none 0 0)));have HT2:=aa hT;have HC2:=aa ((hC.alloc (tkO 0 0 0 (.slice none 0 0))).alloc (tkO 0 p 0 (.slice none 0 0)));have HE2:=aa (((Ex.refl [C] w).alloc (tkO 0 0 0 (.slice none 0 0))).alloc (tkO 0 p 0 (.slice none 0 0)));have c1:=hC.cell 1;have cl:=hC.lt;simp only[ak,am,au]at c1;clear hC hR hT;go_enter func156,ntmps156;by_cases h34:tb s p=34
 ·have Hh:=aa fun w' h=>qb C s p 0 hs hp 34 h34 w' h
  have Hpa:=aa fun w' h=>afo C s (p+1) hs (by omega) w' h
  have H34:=aa h34;clear h34;go_wp2_with fail
  generalize (w.alloc (tkO 0 0 0 (.slice none 0 0))).alloc (tkO 0 p 0 (.slice none 0 0))=W2 at *;have hTC:w.heap.size+1∉[C]:=by have:=HCl.out;simp;omega
  have hRC:w.heap.size∉[C]:=by have:=HCl.out;simp;omega
  have HTC:=aa hTC;have HRC:=aa hRC;clear hTC hRC c1 cl;go_wp2_with(first|(go_at_call 155;refine(Hh.out W2 HC2.out).mono ?_;rintro e w3⟨rfl,he3,hC3⟩;have HC3:=aa hC3;have E3:=aa (HE2.out.two he3);have HT3:=aa (HT2.out.ex he3 HTC.out);have HR3:=aa (HR2.out.ex he3 HRC.out);clear he3 hC3))
  go_at_call 204;refine(Hpa.out w3 HC3.out).mono ?_;rintro e w4⟨v,rfl,he4,⟨rfl,hB4⟩|⟨l,q,ho4,hC4,hP4⟩⟩
  ·have E4:=aa (E3.out.two he4)
   have HT4:=aa (HT3.out.ex he4 HTC.out);have HR4:=aa (HR3.out.ex he4 HRC.out);clear he4;have t0:=HT4.out.cell 0;have t1:=HT4.out.cell 1;have t2:=HT4.out.cell 2;have t3:=HT4.out.cell 3;have u0:=HT4.out.free 0;have u2:=HT4.out.free 2;have u3:=HT4.out.free 3;have tl:=HT4.out.lt;have r0:=HR4.out.cell 0;have r1:=HR4.out.cell 1;have r2:=HR4.out.cell 2;have r3:=HR4.out.cell 3;have y0:=HR4.out.free 0;have y1:=HR4.out.free 1;have y2:=HR4.out.free 2;have y3:=HR4.out.free 3;have rl:=HR4.out.lt;simp only[ak,am,au]at t0 t1 t2 t3 r0 r1 r2 r3;go_wp2_with fail
   have hTa:=(HT4.out.set 0 (.int .i64 8)).set 3 (.slice none 0 0);have hXa:Ex [w.heap.size+1,w.heap.size] w4 (put4 ((w4.setCell ⟨w.heap.size+1,0,none⟩ (.int .i64 8)).setCell ⟨w.heap.size+1,3,none⟩ (.slice none 0 0)) w.heap.size (.int .i64 8) (.int .i64 (p:Nat)) (.int .i64 0) (.slice none 0 0)):=(((Ex.refl _ w4).set (w.heap.size+1) 0 _ (by simp)).set (w.heap.size+1) 3 _ (by simp)).put4 w.heap.size (by simp) _ _ _ _;have hRa:=((HR4.out.far (p:=⟨w.heap.size+1,0,none⟩) (by show w.heap.size+1≠w.heap.size;omega) (.int .i64 8)).far (p:=⟨w.heap.size+1,3,none⟩) (by show w.heap.size+1≠w.heap.size;omega) (.slice none 0 0)).put4 (.int .i64 8) (.int .i64 (p:Nat)) (.int .i64 0) (.slice none 0 0);have e0:=hRa.cell 0;have e1:=hRa.cell 1;have e2:=hRa.cell 2;have e3:=hRa.cell 3;have hne:C∉[w.heap.size+1,w.heap.size]:=by have:=HCl.out;simp;omega
   simp only[ak,am,au]at e0 e1 e2 e3;exact ay (v:=.agg #[.int .i64 8,.int .i64 (p:Nat),.int .i64 0,.slice none 0 0]) (by simp[results,results156,go_sem,e0,e1,e2,e3]) rfl ⟨8,p,0,none,0,0,rfl,E4.out.join hXa (by omega) ac,.inl (hB4.ex hXa hne)⟩
  ·have E4:=aa (E3.out.two he4)
   have HT4:=aa (HT3.out.ex he4 HTC.out);have HR4:=aa (HR3.out.ex he4 HRC.out);clear he4;obtain⟨ad,cap,rfl⟩:=ey ho4;have t0:=HT4.out.cell 0;have t1:=HT4.out.cell 1;have t2:=HT4.out.cell 2;have t3:=HT4.out.cell 3;have u0:=HT4.out.free 0;have u2:=HT4.out.free 2;have u3:=HT4.out.free 3;have tl:=HT4.out.lt;have r0:=HR4.out.cell 0;have r1:=HR4.out.cell 1;have r2:=HR4.out.cell 2;have r3:=HR4.out.cell 3;have y0:=HR4.out.free 0;have y1:=HR4.out.free 1;have y2:=HR4.out.free 2;have y3:=HR4.out.free 3;have rl:=HR4.out.lt;simp only[ak,am,au]at t0 t1 t2 t3 r0 r1 r2 r3;go_wp2_with fail
   have hTa:=(HT4.out.set 0 (.int .i64 8)).set 3 (.slice ad l.length cap);have hXa:Ex [w.heap.size+1,w.heap.size] w4 (put4 ((w4.setCell ⟨w.heap.size+1,0,none⟩ (.int .i64 8)).setCell ⟨w.heap.size+1,3,none⟩ (.slice ad l.length cap)) w.heap.size (.int .i64 8) (.int .i64 (p:Nat)) (.int .i64 0) (.slice ad l.length cap)):=(((Ex.refl _ w4).set (w.heap.size+1) 0 _ (by simp)).set (w.heap.size+1) 3 _ (by simp)).put4 w.heap.size (by simp) _ _ _ _;have hRa:=((HR4.out.far (p:=⟨w.heap.size+1,0,none⟩) (by show w.heap.size+1≠w.heap.size;omega) (.int .i64 8)).far (p:=⟨w.heap.size+1,3,none⟩) (by show w.heap.size+1≠w.heap.size;omega) (.slice ad l.length cap)).put4 (.int .i64 8) (.int .i64 (p:Nat)) (.int .i64 0) (.slice ad l.length cap);have e0:=hRa.cell 0;have e1:=hRa.cell 1;have e2:=hRa.cell 2;have e3:=hRa.cell 3;have hne:C∉[w.heap.size+1,w.heap.size]:=by have:=HCl.out;simp;omega
   simp only[ak,am,au]at e0 e1 e2 e3;exact ay (v:=.agg #[.int .i64 8,.int .i64 (p:Nat),.int .i64 0,.slice ad l.length cap]) (by simp[results,results156,go_sem,e0,e1,e2,e3]) rfl ⟨8,p,0,ad,l.length,cap,rfl,E4.out.join hXa (by omega) ac,.inr ⟨⟨8,p,0,l⟩,q,hC4.ex hXa hne,.pat l q H34.out hP4,ad,cap,rfl,(ft.own ho4).keep (Kt.two hXa HT4.out HR4.out)⟩⟩
 ·have Hh:=aa (show∀w',At w' C (mj s (p:Nat) 0)->Calls prog 155 #[.pointer (some ⟨C,0,none⟩),.int .u8 34] w' (fun e w2=>e=.returned (.bool false)/\Below w'.heap.size w' w2)from fun w' h=>sf C s p 0 34 (fun h=>h34 h.2) w' h)
  have H34:=aa h34;clear h34;go_wp2_with fail
  generalize (w.alloc (tkO 0 0 0 (.slice none 0 0))).alloc (tkO 0 p 0 (.slice none 0 0))=W2 at *;have hTC:w.heap.size+1∉[C]:=by have:=HCl.out;simp;omega
  have hRC:w.heap.size∉[C]:=by have:=HCl.out;simp;omega
  have HTC:=aa hTC;have HRC:=aa hRC;clear hTC hRC c1 cl;go_wp2_with(go_at_call 155;refine(Hh.out W2 HC2.out).mono ?_;rintro e w3⟨rfl,hb3⟩;have HC3:=aa (HC2.out.below hb3 HC2.out.lt);have E3:=aa (HE2.out.two (Ex.of hb3));have HT3:=aa (HT2.out.below hb3 HT2.out.lt);have HR3:=aa (HR2.out.below hb3 HR2.out.lt);clear hb3)
  have hbt:s[p].toNat=tb s p:=ia s p hp;have hpi:(p:Int)<s.size:=by omega
  have hsg0:=fun w'=>ao6 (tb s p) (jq s p) w'
  have hK:=ww (tb s p);obtain⟨I,hI⟩:∃I:Int,I=(j3 (tb s p):Int)-1:=⟨_,rfl⟩;rw[<-hI]at hsg0;have hsg:=aa hsg0;have HI:=aa hI;have hI1: -1<=I:=by omega
  have hI2:I<=6:=by omega
  clear hsg0 hI hK;have d0:=HC3.out.cell 0;have d1:=HC3.out.cell 1;have dl:=HC3.out.lt;have t0:=HT3.out.cell 0;have u0:=HT3.out.free 0;have tl:=HT3.out.lt;simp only[ak,am,au]at d0 d1 t0;have hwr:IntKind.i64.wrap (I+1)=I+1:=by rw[ci];omega
  go_region_with(go_at_call 205;refine(hsg.out _).mono ?_;rintro e w4⟨rfl,rfl⟩)
  all_goals
   have hC4:At ((w3.setCell ⟨w.heap.size+1,0,none⟩ (.int .i64 (I+1))).drew) C (mj s (p:Nat) 0):=HC3.out.far (p:=⟨w.heap.size+1,0,none⟩) (by show w.heap.size+1≠C;have:=HCl.out;omega) (.int .i64 (I+1));have hT4:At ((w3.setCell ⟨w.heap.size+1,0,none⟩ (.int .i64 (I+1))).drew) (w.heap.size+1) (tkO (I+1) p 0 (.slice none 0 0)):=HT3.out.set 0 (.int .i64 (I+1));have hR4:At ((w3.setCell ⟨w.heap.size+1,0,none⟩ (.int .i64 (I+1))).drew) w.heap.size (tkO 0 0 0 (.slice none 0 0)):=HR3.out.far (p:=⟨w.heap.size+1,0,none⟩) (by show w.heap.size+1≠w.heap.size;omega) (.int .i64 (I+1));have hE4:Ex [C] w ((w3.setCell ⟨w.heap.size+1,0,none⟩ (.int .i64 (I+1))).drew):=(E3.out.new (w.heap.size+1) 0 (.int .i64 (I+1)) (by omega)).drew;generalize (w3.setCell ⟨w.heap.size+1,0,none⟩ (.int .i64 (I+1))).drew=W4 at *;clear d0 d1 dl t0 u0 tl hbt hpi hsg HC3 E3 HT3 HR3 hwr;have HC4:=aa hC4;have HT4:=aa hT4;have HR4:=aa hR4;have HE4:=aa hE4;clear hC4 hT4 hR4 hE4;have d0:=HC4.out.cell 1;have dz:=HC4.out.free 1;have dl:=HC4.out.lt;have t0:=HT4.out.cell 0;have tl:=HT4.out.lt;simp only[ak,am,au]at d0 t0;by_cases hk0:I+1<1
   ·have H6:=aa fun w' h=>i9 C s p 0 p 130 w' h
    go_wp2_with(go_at_call 206;refine(H6.out W4 HC4.out).mono ?_;rintro e w6⟨rfl,he6,hC6⟩;have E6:=aa (HE4.out.two he6);have HT6:=HT4.out.ex he6 HTC.out;have HR6:=HR4.out.ex he6 HRC.out;have Hr6:=aa HR6;have C6:=aa hC6;have q0:=HT6.cell 0;have q1:=HT6.cell 1;have q2:=HT6.cell 2;have q3:=HT6.cell 3;have ql:=HT6.lt;have r0:=HR6.cell 0;have r1:=HR6.cell 1;have r2:=HR6.cell 2;have r3:=HR6.cell 3;have y0:=HR6.free 0;have y1:=HR6.free 1;have y2:=HR6.free 2;have y3:=HR6.free 3;have rl:=HR6.lt;simp only[ak,am,au]at q0 q1 q2 q3 r0 r1 r2 r3;clear he6 hC6 HT6 HR6)
    have hXa:Ex [w.heap.size+1,w.heap.size] w6 (put4 w6 w.heap.size (.int .i64 (I+1)) (.int .i64 (p:Nat)) (.int .i64 0) (.slice none 0 0)):=(Ex.refl _ w6).put4 w.heap.size (by simp) _ _ _ _;have hRa:=Hr6.out.put4 (.int .i64 (I+1)) (.int .i64 (p:Nat)) (.int .i64 0) (.slice none 0 0);have e0:=hRa.cell 0;have e1:=hRa.cell 1;have e2:=hRa.cell 2;have e3:=hRa.cell 3;have hne:C∉[w.heap.size+1,w.heap.size]:=by have:=HCl.out;simp;omega
    simp only[ak,am,au]at e0 e1 e2 e3;exact ay (v:=.agg #[.int .i64 (I+1),.int .i64 (p:Nat),.int .i64 0,.slice none 0 0]) (by simp[results,results156,go_sem,e0,e1,e2,e3]) rfl ⟨(I+1),(p:Nat),0,none,0,0,rfl,E6.out.join hXa (by omega) ac,.inl (lu.ex ⟨p,130,C6.out,⟨by omega,by omega⟩,by decide,by decide⟩ hXa hne)⟩
   ·by_cases hk6:I+1<6
    ·have g6:((I+1:Int)==6)=false:=by rw[ax];omega
     have g7:((I+1:Int)==7)=false:=by rw[ax];omega
     have HT6:=HT4.out;have HR6:=HR4.out;have t1:=HT6.cell 1;have t2:=HT6.cell 2;have t3:=HT6.cell 3;have r0:=HR6.cell 0;have y0:=HR6.free 0;have r1:=HR6.cell 1;have y1:=HR6.free 1;have r2:=HR6.cell 2;have y2:=HR6.free 2;have r3:=HR6.cell 3;have y3:=HR6.free 3;have rl:=HR6.lt;simp only[ak,am,au]at t1 t2 t3 r0 r1 r2 r3;clear HT6 HR6;go_upto_region 12 with(fail)
     have hC5:At (W4.setCell ⟨C,1,none⟩ (.int .i64 ((p:Int)+1))) C (mj s ((p+1:Nat):Int) 0):=HC4.out.set 1 _;have hT5:At (W4.setCell ⟨C,1,none⟩ (.int .i64 ((p:Int)+1))) (w.heap.size+1) (tkO (I+1) p 0 (.slice none 0 0)):=HT4.out.far (by show C≠w.heap.size+1;have:=HCl.out;omega) _;have hR5:At (W4.setCell ⟨C,1,none⟩ (.int .i64 ((p:Int)+1))) w.heap.size (tkO 0 0 0 (.slice none 0 0)):=HR4.out.far (by show C≠w.heap.size;have:=HCl.out;omega) _;have hE5:Ex [C] w (W4.setCell ⟨C,1,none⟩ (.int .i64 ((p:Int)+1))):=HE4.out.set C 1 _ (by simp);generalize W4.setCell ⟨C,1,none⟩ (.int .i64 ((p:Int)+1))=W5 at *;have HC5:=aa hC5;have HT5:=aa hT5;have HR5:=aa hR5;have HE5:=aa hE5;clear d0 dz dl t0 tl t1 t2 t3 r0 r1 r2 r3 y0 y1 y2 y3 rl hC5 hT5 hR5 hE5;have t0:=HT5.out.cell 0;have t1:=HT5.out.cell 1;have t2:=HT5.out.cell 2;have t3:=HT5.out.cell 3;have tl:=HT5.out.lt;have r0:=HR5.out.cell 0;have y0:=HR5.out.free 0;have r1:=HR5.out.cell 1;have y1:=HR5.out.free 1;have r2:=HR5.out.cell 2;have y2:=HR5.out.free 2;have r3:=HR5.out.cell 3;have y3:=HR5.out.free 3;have rl:=HR5.out.lt;simp only[ak,am,au]at t0 t1 t2 t3 r0 r1 r2 r3;go_wp2_with fail
     have hXa:Ex [w.heap.size+1,w.heap.size] W5 (put4 W5 w.heap.size (.int .i64 (I+1)) (.int .i64 (p:Nat)) (.int .i64 0) (.slice none 0 0)):=(Ex.refl _ W5).put4 w.heap.size (by simp) _ _ _ _;have hRa:=HR5.out.put4 (.int .i64 (I+1)) (.int .i64 (p:Nat)) (.int .i64 0) (.slice none 0 0);have e0:=hRa.cell 0;have e1:=hRa.cell 1;have e2:=hRa.cell 2;have e3:=hRa.cell 3;have hne:C∉[w.heap.size+1,w.heap.size]:=by have:=HCl.out;simp;omega
     simp only[ak,am,au]at e0 e1 e2 e3;exact ay (v:=.agg #[.int .i64 (I+1),.int .i64 (p:Nat),.int .i64 0,.slice none 0 0]) (by simp[results,results156,go_sem,e0,e1,e2,e3]) rfl ⟨(I+1),(p:Nat),0,none,0,0,rfl,HE5.out.join hXa (by omega) ac,.inr ⟨⟨j3 (tb s p),p,0,[]⟩,p+1,HC5.out.ex hXa hne,.sign H34.out (by have:=HI.out;omega) (by have:=HI.out;omega),(show rt _ ⟨j3 (tb s p),p,0,[]⟩ _ from⟨none,0,by rw[show((j3 (tb s p):Nat):Int)=I+1 by have:=HI.out;omega];rfl,ft.nil _ _ _ _⟩)⟩⟩
    ·by_cases hk7:I+1=6
     ·have g6:((I+1:Int)==6)=true:=by rw[hk7];rfl
      clear hk7;go_upto_region 11 with(fail)
      have hC5:At (W4.setCell ⟨C,1,none⟩ (.int .i64 ((p:Int)+1))) C (mj s ((p+1:Nat):Int) 0):=HC4.out.set 1 _;have hT5:At (W4.setCell ⟨C,1,none⟩ (.int .i64 ((p:Int)+1))) (w.heap.size+1) (tkO (I+1) p 0 (.slice none 0 0)):=HT4.out.far (by show C≠w.heap.size+1;have:=HCl.out;omega) _;have hR5:At (W4.setCell ⟨C,1,none⟩ (.int .i64 ((p:Int)+1))) w.heap.size (tkO 0 0 0 (.slice none 0 0)):=HR4.out.far (by show C≠w.heap.size;have:=HCl.out;omega) _;have hE5:Ex [C] w (W4.setCell ⟨C,1,none⟩ (.int .i64 ((p:Int)+1))):=HE4.out.set C 1 _ (by simp);generalize W4.setCell ⟨C,1,none⟩ (.int .i64 ((p:Int)+1))=W5 at *;have HC5:=aa hC5;have HT5:=aa hT5;have HR5:=aa hR5;have HE5:=aa hE5;clear d0 dz dl t0 tl g6 hC5 hT5 hR5 hE5;have Hnu:=aa fun w' h=>aa3 C s (p+1) hs (by omega) w' h
      go_wp2_with fail
      go_at_call 207;refine(Hnu.out W5 HC5.out).mono ?_;rintro e w6⟨n,rfl,hn,he6,hB6|⟨q,hC6,hN6⟩⟩
      ·have E6:=aa (HE5.out.two he6)
       have HT6:=aa (HT5.out.ex he6 HTC.out);have HR6:=aa (HR5.out.ex he6 HRC.out);clear he6;have t0:=HT6.out.cell 0;have t1:=HT6.out.cell 1;have t2:=HT6.out.cell 2;have t3:=HT6.out.cell 3;have tl:=HT6.out.lt;have r0:=HR6.out.cell 0;have y0:=HR6.out.free 0;have r1:=HR6.out.cell 1;have y1:=HR6.out.free 1;have r2:=HR6.out.cell 2;have y2:=HR6.out.free 2;have r3:=HR6.out.cell 3;have y3:=HR6.out.free 3;have rl:=HR6.out.lt;simp only[ak,am,au]at t0 t1 t2 t3 r0 r1 r2 r3;have u2:=HT6.out.free 2;go_wp2_with fail
       have hXa:Ex [w.heap.size+1,w.heap.size] w6 (put4 (w6.setCell ⟨w.heap.size+1,2,none⟩ (.int .i64 (n:Nat))) w.heap.size (.int .i64 (I+1)) (.int .i64 (p:Nat)) (.int .i64 (n:Nat)) (.slice none 0 0)):=((Ex.refl _ w6).set (w.heap.size+1) 2 _ (by simp)).put4 w.heap.size (by simp) _ _ _ _;have hRa:=(HR6.out.far (p:=⟨w.heap.size+1,2,none⟩) (by show w.heap.size+1≠w.heap.size;omega) (.int .i64 (n:Nat))).put4 (.int .i64 (I+1)) (.int .i64 (p:Nat)) (.int .i64 (n:Nat)) (.slice none 0 0);have e0:=hRa.cell 0;have e1:=hRa.cell 1;have e2:=hRa.cell 2;have e3:=hRa.cell 3;have hne:C∉[w.heap.size+1,w.heap.size]:=by have:=HCl.out;simp;omega
       simp only[ak,am,au]at e0 e1 e2 e3;exact ay (v:=.agg #[.int .i64 (I+1),.int .i64 (p:Nat),.int .i64 (n:Nat),.slice none 0 0]) (by simp[results,results156,go_sem,e0,e1,e2,e3]) rfl ⟨I+1,p,n,none,0,0,rfl,E6.out.join hXa (by omega) ac,.inl (hB6.ex hXa hne)⟩
      ·have E6:=aa (HE5.out.two he6)
       have HT6:=aa (HT5.out.ex he6 HTC.out);have HR6:=aa (HR5.out.ex he6 HRC.out);clear he6;have t0:=HT6.out.cell 0;have t1:=HT6.out.cell 1;have t2:=HT6.out.cell 2;have t3:=HT6.out.cell 3;have tl:=HT6.out.lt;have r0:=HR6.out.cell 0;have y0:=HR6.out.free 0;have r1:=HR6.out.cell 1;have y1:=HR6.out.free 1;have r2:=HR6.out.cell 2;have y2:=HR6.out.free 2;have r3:=HR6.out.cell 3;have y3:=HR6.out.free 3;have rl:=HR6.out.lt;simp only[ak,am,au]at t0 t1 t2 t3 r0 r1 r2 r3;have u2:=HT6.out.free 2;go_wp2_with fail
       have hXa:Ex [w.heap.size+1,w.heap.size] w6 (put4 (w6.setCell ⟨w.heap.size+1,2,none⟩ (.int .i64 (n:Nat))) w.heap.size (.int .i64 (I+1)) (.int .i64 (p:Nat)) (.int .i64 (n:Nat)) (.slice none 0 0)):=((Ex.refl _ w6).set (w.heap.size+1) 2 _ (by simp)).put4 w.heap.size (by simp) _ _ _ _;have hRa:=(HR6.out.far (p:=⟨w.heap.size+1,2,none⟩) (by show w.heap.size+1≠w.heap.size;omega) (.int .i64 (n:Nat))).put4 (.int .i64 (I+1)) (.int .i64 (p:Nat)) (.int .i64 (n:Nat)) (.slice none 0 0);have e0:=hRa.cell 0;have e1:=hRa.cell 1;have e2:=hRa.cell 2;have e3:=hRa.cell 3;have hne:C∉[w.heap.size+1,w.heap.size]:=by have:=HCl.out;simp;omega
       simp only[ak,am,au]at e0 e1 e2 e3;exact ay (v:=.agg #[.int .i64 (I+1),.int .i64 (p:Nat),.int .i64 (n:Nat),.slice none 0 0]) (by simp[results,results156,go_sem,e0,e1,e2,e3]) rfl ⟨I+1,p,n,none,0,0,rfl,E6.out.join hXa (by omega) ac,.inr ⟨⟨j3 (tb s p),p,n,[]⟩,q,hC6.ex hXa hne,.num n q H34.out (by have:=HI.out;omega) hN6,(show rt _ ⟨j3 (tb s p),p,n,[]⟩ _ from⟨none,0,by rw[show((j3 (tb s p):Nat):Int)=I+1 by have:=HI.out;omega];rfl,ft.nil _ _ _ _⟩)⟩⟩
     ·have g6:((I+1:Int)==6)=false:=by rw[ax];omega
      have g7e:I+1=7:=by omega
      have g7:((I+1:Int)==7)=true:=by rw[g7e];rfl
      clear g7e;clear hk7;go_upto_region 11 with(fail)
      have hC5:At (W4.setCell ⟨C,1,none⟩ (.int .i64 ((p:Int)+1))) C (mj s ((p+1:Nat):Int) 0):=HC4.out.set 1 _;have hT5:At (W4.setCell ⟨C,1,none⟩ (.int .i64 ((p:Int)+1))) (w.heap.size+1) (tkO (I+1) p 0 (.slice none 0 0)):=HT4.out.far (by show C≠w.heap.size+1;have:=HCl.out;omega) _;have hR5:At (W4.setCell ⟨C,1,none⟩ (.int .i64 ((p:Int)+1))) w.heap.size (tkO 0 0 0 (.slice none 0 0)):=HR4.out.far (by show C≠w.heap.size;have:=HCl.out;omega) _;have hE5:Ex [C] w (W4.setCell ⟨C,1,none⟩ (.int .i64 ((p:Int)+1))):=HE4.out.set C 1 _ (by simp);generalize W4.setCell ⟨C,1,none⟩ (.int .i64 ((p:Int)+1))=W5 at *;have HC5:=aa hC5;have HT5:=aa hT5;have HR5:=aa hR5;have HE5:=aa hE5;clear d0 dz dl t0 tl g6 hC5 hT5 hR5 hE5;have Hnu:=aa fun w' h=>aa3 C s (p+1) hs (by omega) w' h
      go_wp2_with fail
      go_at_call 207;refine(Hnu.out W5 HC5.out).mono ?_;rintro e w6⟨n,rfl,hn,he6,hB6|⟨q,hC6,hN6⟩⟩
      ·have E6:=aa (HE5.out.two he6)
       have HT6:=aa (HT5.out.ex he6 HTC.out);have HR6:=aa (HR5.out.ex he6 HRC.out);clear he6;have t0:=HT6.out.cell 0;have t1:=HT6.out.cell 1;have t2:=HT6.out.cell 2;have t3:=HT6.out.cell 3;have tl:=HT6.out.lt;have r0:=HR6.out.cell 0;have y0:=HR6.out.free 0;have r1:=HR6.out.cell 1;have y1:=HR6.out.free 1;have r2:=HR6.out.cell 2;have y2:=HR6.out.free 2;have r3:=HR6.out.cell 3;have y3:=HR6.out.free 3;have rl:=HR6.out.lt;simp only[ak,am,au]at t0 t1 t2 t3 r0 r1 r2 r3;have u2:=HT6.out.free 2;go_wp2_with fail
       have hXa:Ex [w.heap.size+1,w.heap.size] w6 (put4 (w6.setCell ⟨w.heap.size+1,2,none⟩ (.int .i64 (n:Nat))) w.heap.size (.int .i64 (I+1)) (.int .i64 (p:Nat)) (.int .i64 (n:Nat)) (.slice none 0 0)):=((Ex.refl _ w6).set (w.heap.size+1) 2 _ (by simp)).put4 w.heap.size (by simp) _ _ _ _;have hRa:=(HR6.out.far (p:=⟨w.heap.size+1,2,none⟩) (by show w.heap.size+1≠w.heap.size;omega) (.int .i64 (n:Nat))).put4 (.int .i64 (I+1)) (.int .i64 (p:Nat)) (.int .i64 (n:Nat)) (.slice none 0 0);have e0:=hRa.cell 0;have e1:=hRa.cell 1;have e2:=hRa.cell 2;have e3:=hRa.cell 3;have hne:C∉[w.heap.size+1,w.heap.size]:=by have:=HCl.out;simp;omega
       simp only[ak,am,au]at e0 e1 e2 e3;exact ay (v:=.agg #[.int .i64 (I+1),.int .i64 (p:Nat),.int .i64 (n:Nat),.slice none 0 0]) (by simp[results,results156,go_sem,e0,e1,e2,e3]) rfl ⟨I+1,p,n,none,0,0,rfl,E6.out.join hXa (by omega) ac,.inl (hB6.ex hXa hne)⟩
      ·have E6:=aa (HE5.out.two he6)
       have HT6:=aa (HT5.out.ex he6 HTC.out);have HR6:=aa (HR5.out.ex he6 HRC.out);clear he6;have t0:=HT6.out.cell 0;have t1:=HT6.out.cell 1;have t2:=HT6.out.cell 2;have t3:=HT6.out.cell 3;have tl:=HT6.out.lt;have r0:=HR6.out.cell 0;have y0:=HR6.out.free 0;have r1:=HR6.out.cell 1;have y1:=HR6.out.free 1;have r2:=HR6.out.cell 2;have y2:=HR6.out.free 2;have r3:=HR6.out.cell 3;have y3:=HR6.out.free 3;have rl:=HR6.out.lt;simp only[ak,am,au]at t0 t1 t2 t3 r0 r1 r2 r3;have u2:=HT6.out.free 2;go_wp2_with fail
       have hXa:Ex [w.heap.size+1,w.heap.size] w6 (put4 (w6.setCell ⟨w.heap.size+1,2,none⟩ (.int .i64 (n:Nat))) w.heap.size (.int .i64 (I+1)) (.int .i64 (p:Nat)) (.int .i64 (n:Nat)) (.slice none 0 0)):=((Ex.refl _ w6).set (w.heap.size+1) 2 _ (by simp)).put4 w.heap.size (by simp) _ _ _ _;have hRa:=(HR6.out.far (p:=⟨w.heap.size+1,2,none⟩) (by show w.heap.size+1≠w.heap.size;omega) (.int .i64 (n:Nat))).put4 (.int .i64 (I+1)) (.int .i64 (p:Nat)) (.int .i64 (n:Nat)) (.slice none 0 0);have e0:=hRa.cell 0;have e1:=hRa.cell 1;have e2:=hRa.cell 2;have e3:=hRa.cell 3;have hne:C∉[w.heap.size+1,w.heap.size]:=by have:=HCl.out;simp;omega
       simp only[ak,am,au]at e0 e1 e2 e3;exact ay (v:=.agg #[.int .i64 (I+1),.int .i64 (p:Nat),.int .i64 (n:Nat),.slice none 0 0]) (by simp[results,results156,go_sem,e0,e1,e2,e3]) rfl ⟨I+1,p,n,none,0,0,rfl,E6.out.join hXa (by omega) ac,.inr ⟨⟨j3 (tb s p),p,n,[]⟩,q,hC6.ex hXa hne,.num n q H34.out (by have:=HI.out;omega) hN6,(show rt _ ⟨j3 (tb s p),p,n,[]⟩ _ from⟨none,0,by rw[show((j3 (tb s p):Nat):Int)=I+1 by have:=HI.out;omega];rfl,ft.nil _ _ _ _⟩)⟩⟩
end
section
set_option maxRecDepth 100000
set_option maxHeartbeats 8000000
open Go.RowKit Go.Shelf
theorem elem217:mi 166 217 4 48:=lj (z:=.agg #[.int .i64 0,.int .i64 0,.int .i64 0,.slice none 0 0]) underlying166 (by kernel_rfl) rfl (by decide)
theorem gr{T E size bytes base:Nat}(hE:mi T E size bytes){ops:Array Oper}{rest:List Oper}{o:Oper}{a:Act}{Q:Exit->Act->World->Prop}(hgd:o.guard=none)(s x:Operand)
 (ho:o.op=.call {callee:=.builtin .append,args:=#[s,x],argTypes:=#[T,T]})
 {v:Value} {n:Nat} {xs:List Value} (hs:a.eval s=v) {w0:World} (hown:w0.ownsRow base E size v n xs) (nc:List Value)
 (hx:a.eval x=.slice (some ⟨w0.heap.size,0,none⟩) 1 1) (hl:nc.length=size) (h1:∀u∈nc,u.oneCell'=true) (hn:n+1<=maxLen) (hbytes:(n+1)*bytes<=140737488355328) (hbase:base<=w0.heap.size)
 (h:∀v' w',w'.ownsRow base E size v' (n+1) (xs++nc)->Below base w0 w'->(∀ty,E≠ty->Kt ty w0 w')->wpList prog ops Q rest (a.put o.dst v') w'):
 wpList prog ops Q (o::rest) a (w0.alloc (.cells nc.toArray E)):=by
 obtain⟨i,z,ht,hi,hz,hsize,hby,hzs,hsz⟩:=hE;refine wpList_append_own (w0.alloc (.cells nc.toArray E)) hgd s x T ho base E i z size bytes ht hi hz hsize hby hzs hsz v n xs hs (hown.alloc _) ⟨w0.heap.size,0,none⟩ 1 1 nc hx (by omega) ?_ h1 hn hbytes (by simp;omega) ?_
 ·intro j u hj
  have e:(⟨w0.heap.size,0,none⟩:Addr).add j=⟨w0.heap.size,j,none⟩:=by unfold Addr.add;split<;>simp_all
  rw[e,World.cell?_alloc_new];simpa using hj
 ·intro v' w' h2 h3 _
  refine h v' w' h2 ?_ fun ty hty=>((Kt.refl ty w0).alloc _).trans (Kt.grown h3 (hown.alloc (.cells nc.toArray E)) hty)
  have hlt:=(hown.alloc (.cells nc.toArray E)).lt;exact((aw base w0).alloc hbase _).trans (ib h3 (by simp;omega) fun k hk=>(hlt k hk).1)
def LexPost(s:ByteArray)(w:World)(e:Ending)(w':World):Prop:=
 ∃(v:Value)(a no:Int),e=.returned (.tuple #[v,.int .i64 a,.int .i64 no])/\Below w.heap.size w w'∧
  ((0<no/\no<200)\/(no=0/\∃l vs,qx s 0 l/\l.length<=1000/\f9 (rt w') l vs/\w'.ownsRow w.heap.size 217 4 v l.length vs))
structure LSt(w1 w:World)(C:Nat)(s:ByteArray)(q:Nat)(v:Value)(l:List gq)(vs:List Value):Prop where
 c:At w C (mj s (q:Nat) 0)
 ql:q<=s.size
 ll:l.length<=q
 recs:f9 (rt w) l vs
 own:w.ownsRow w1.heap.size 217 4 v l.length vs
 ex:Ex [C] w1 w
 cps:∀m,qx s q m->qx s 0 (l++m)
theorem lex_any(s:ByteArray)(w:World):Calls prog 102 #[.string s] w (LexPost s w):=by
 by_cases hs:1000<s.size
 ·have hsi:(1000:Int)<s.size:=by omega
  clear hs;go_enter func102,ntmps102;go_wp2_with fail
  refine ay (v:=.tuple #[.slice none 0 0,.int .i64 1000,.int .i64 135]) (by first|rfl|simp[results,results102,go_sem]) rfl ⟨_,_,_,rfl,ae,.inl ⟨by decide,by decide⟩⟩
 ·have hs1:s.size<=1000:=by omega
  have hsi:¬(1000:Int)<s.size:=by omega
  have hC:=At.new w (mj s 0 0);have hCl:w.heap.size<(w.alloc (mj s 0 0)).heap.size:=by simp
  have hB:=(aw w.heap.size w).alloc ac (mj s 0 0);clear hs;go_enter func102,ntmps102;go_wp2_with fail
  generalize hC0:w.heap.size=C at *;generalize w.alloc (mj s 0 0)=W1 at *;have HCl:=aa hCl;have HB:=aa hB;have HC:=aa hC;have HC0:=aa hC0;clear hCl hB hC hC0;go_loopw[6] (fun v wr=>((∃ad m cap,v=.slice ad m cap)/\Ex [C] W1 wr/\lu wr C s)\/∃q l vs,LSt W1 wr C s q v l vs) (fun _ wr=>farB C s wr)
  case atStart=>exact .inr ⟨0,[],[],HC.out,cx _,cx _,.nil,bj _ _ _ _,Ex.refl _ _,fun m h=>h⟩
  case round=>
   rcases hrel with⟨⟨ad,m,cap,rfl⟩,hE,hBd⟩|⟨q,l,vs,H⟩
   ·have HE:=aa hE
    obtain⟨p,no,hC,hpp,he0,he2⟩:=hBd;have d2:=hC.cell 2;have dl:=hC.lt;have HCr:=aa hC;have hne:(no==0)=false:=by rw[ax];omega
    have hnn:(no !=0)=true:=by rw[bne_iff_ne];omega
    have hE1:=aa fun w' h=>li C s p no w' h
    simp only[ak,am,au]at d2;clear hC hE;by_cases hpe:(s.size:Int)<=p
    ·rw[cw hpe]at hE1
     clear hpe;go_wp2_with(go_at_call 154;refine(hE1.out wr HCr.out).mono ?_;rintro e w2⟨rfl,m2,rfl⟩;have HC2:=aa (HCr.out.drewN m2);have E2:=aa (HE.out.two (Ex.of (S:=[C]) (cu (aw wr.heap.size wr) m2)));have k1:=HC2.out.cell 1;have k2:=HC2.out.cell 2;have kl:=HC2.out.lt;simp only[ak,am,au]at k1 k2)
     generalize wr.drewN m2=W3 at *;go_region;all_goals(go_wp2_with fail)
     refine ay (v:=.tuple #[.slice none 0 0,.int .i64 p,.int .i64 no]) (by first|rfl|simp[results,results102,go_sem]) rfl ⟨_,_,_,rfl,?_,.inl ⟨he0,he2⟩⟩;rw[HC0.out];exact HB.out.trans (((E2.out.two (Ex.of (S:=[C]) ((aw W3.heap.size W3).drew))).below (dj HCl.out) (by simp)))
    ·rw[bv hpe]at hE1
     clear hpe;go_wp2_with(go_at_call 154;refine(hE1.out wr HCr.out).mono ?_;rintro e w2⟨rfl,m2,rfl⟩;have HC2:=aa (HCr.out.drewN m2);have E2:=aa (HE.out.two (Ex.of (S:=[C]) (cu (aw wr.heap.size wr) m2)));have k1:=HC2.out.cell 1;have k2:=HC2.out.cell 2;have kl:=HC2.out.lt;simp only[ak,am,au]at k1 k2)
     generalize wr.drewN m2=W3 at *;go_region;all_goals(go_wp2_with fail)
     refine ay (v:=.tuple #[.slice none 0 0,.int .i64 p,.int .i64 no]) (by first|rfl|simp[results,results102,go_sem]) rfl ⟨_,_,_,rfl,?_,.inl ⟨he0,he2⟩⟩;rw[HC0.out];exact HB.out.trans (((E2.out.two (Ex.of (S:=[C]) ((aw W3.heap.size W3).drew))).below (dj HCl.out) (by simp)))
   ·have HH:=aa H
    have HCr:=aa H.c;obtain⟨ad,cap,rfl⟩:=ey H.own;have d2:=H.c.cell 2;have dl:=H.c.lt;have hE1:=aa fun w' h=>li C s (q:Nat) 0 w' h
    simp only[ak,am,au]at d2;have hll:(l.length:Int)<=1000:=by have:=H.ll;have:=H.ql;omega
    clear H;by_cases hlt:q<s.size
    ·have hki:decide ((s.size:Int)<=(q:Nat))=false:=by simp;omega
     rw[hki]at hE1;clear hki;by_cases h32:tb s q=32
     ·have Hh:=aa fun w' h=>qb C s q 0 hs1 hlt 32 h32 w' h
      have H32:=aa h32;clear h32;go_wp2_with(first|(go_at_call 154;refine(hE1.out wr HCr.out).mono ?_;rintro e w2⟨rfl,m2,rfl⟩;have HC2:=aa (HCr.out.drewN m2);have ER2:Hid (Ex [C] wr (wr.drewN m2)):=aa (Ex.of (S:=[C]) (cu (aw wr.heap.size wr) m2));have k1:=HC2.out.cell 1;have k2:=HC2.out.cell 2;have kl:=HC2.out.lt;simp only[ak,am,au]at k1 k2)|(go_at_call 155;refine(Hh.out _ HC2.out).mono ?_;rintro e w3⟨rfl,he3,hC3⟩;have HC3:=aa hC3;have ER3:=aa (ER2.out.two he3);clear he3 hC3))
      go_roundw
      case rel=>exact .inr ⟨q+1,l,vs,HC3.out,hlt,by have:=HH.out.ll;omega,m6 HH.out.recs (Kt.at1 ER3.out HCr.out),jl HH.out.own ER3.out HCl.out,HH.out.ex.two ER3.out,fun m h=>HH.out.cps m (.blank q m hlt H32.out h)⟩
      case measure=>rw[pj HC3.out,pj HCr.out];omega
     ·have Hh:=aa (show∀w',At w' C (mj s (q:Nat) 0)->Calls prog 155 #[.pointer (some ⟨C,0,none⟩),.int .u8 32] w' (fun e w2=>e=.returned (.bool false)/\Below w'.heap.size w' w2)from fun w' h=>sf C s q 0 32 (fun h=>h32 h.2) w' h)
      have Htk:=aa fun w' h=>alj C s q hs1 hlt w' h
      have H32:=aa h32;clear h32;go_wp2_with(first|(go_at_call 154;refine(hE1.out wr HCr.out).mono ?_;rintro e w2⟨rfl,m2,rfl⟩;have HC2:=aa (HCr.out.drewN m2);have ER2:Hid (Ex [C] wr (wr.drewN m2)):=aa (Ex.of (S:=[C]) (cu (aw wr.heap.size wr) m2));have k1:=HC2.out.cell 1;have k2:=HC2.out.cell 2;have kl:=HC2.out.lt;simp only[ak,am,au]at k1 k2)|(go_at_call 155;refine(Hh.out _ HC2.out).mono ?_;rintro e w3⟨rfl,hb3⟩;have HC3:=aa (HC2.out.below hb3 HC2.out.lt);have ER3:=aa (ER2.out.two (Ex.of hb3));clear hb3))
      go_at_call 156;refine(Htk.out w3 HC3.out).mono ?_;rintro e w4⟨k,a,n,ad4,m4,cap4,rfl,he4,hres⟩;have ER4:=aa (ER3.out.two he4);have HO4:=aa (jl HH.out.own ER4.out HCl.out);have HR4:=aa (m6 HH.out.recs (Kt.at1 ER4.out HCr.out));have HE4:=aa (HH.out.ex.two ER4.out);have HNz:=aa HE4.out.size;have HRes:=aa hres;clear he4 hres;go_wp2_with(at_builtin;refine gr elem217 rfl _ _ rfl rfl HO4.out [.int .i64 k,.int .i64 a,.int .i64 n,.slice ad4 m4 cap4] rfl rfl (by simp[Value.oneCell']) (by unfold maxLen;omega) (by omega) HNz.out ?_;intro v9 w9 hown9 hb9 hk9;have HO9:=aa hown9;have HB9:=aa hb9;have HK9:=aa hk9;clear hown9 hb9 hk9)
      obtain⟨ad9,cap9,rfl⟩:=ey HO9.out;have HE9:=aa (HE4.out.far HB9.out ac);rcases HRes.out with hBd|⟨tk,q2,hC4,hT4,hV4⟩
      ·have hBd9:=hBd.below HB9.out HCl.out
       go_roundw
       case rel=>exact .inl ⟨⟨_,_,_,rfl⟩,HE9.out,hBd9⟩
       case measure=>rw[rk hBd9,pj HCr.out];omega
      ·have hC9:=hC4.below HB9.out HCl.out
       have hq2:=hT4.lt hlt;go_roundw
       case rel=>exact .inr ⟨q2,l++[tk],_,hC9,hq2.2,by rw[bd];have:=HH.out.ll;show l.length+1<=q2;omega,(m6 HR4.out (HK9.out 100 (by decide))).append (f9.one (hV4.keep (HK9.out 100 (by decide)))),by rw[bd];exact HO9.out,HE9.out,fun m h=>by rw[dc];exact HH.out.cps _ (.tok q tk q2 m hlt H32.out hT4 h)⟩
       case measure=>rw[pj hC9,pj HCr.out];omega
    ·have hki:decide ((s.size:Int)<=(q:Nat))=true:=by simp;omega
     rw[hki]at hE1;clear hki;go_wp2_with(go_at_call 154;refine(hE1.out wr HCr.out).mono ?_;rintro e w2⟨rfl,m2,rfl⟩;have HC2:=aa (HCr.out.drewN m2);have ER2:Hid (Ex [C] wr (wr.drewN m2)):=aa (Ex.of (S:=[C]) (cu (aw wr.heap.size wr) m2));have k1:=HC2.out.cell 1;have k2:=HC2.out.cell 2;have kl:=HC2.out.lt;simp only[ak,am,au]at k1 k2)
     refine ay (v:=.tuple #[.slice ad l.length cap,.int .i64 (s.size:Nat),.int .i64 0]) (by first|rfl|simp[results,results102,go_sem]) rfl ⟨_,_,_,rfl,?_,.inr ⟨rfl,l,vs,?_,by omega,m6 HH.out.recs (Kt.at1 ER2.out HCr.out),fx (jl HH.out.own ER2.out HCl.out) ?_⟩⟩
     ·rw[HC0.out]
      exact HB.out.trans ((HH.out.ex.two ER2.out).below (dj HCl.out) (by simp))
     ·have:=HH.out.cps [] (.fin q (by omega));rwa[dh]at this
     ·rw[HC0.out];exact dj HCl.out
end
section
set_option maxRecDepth 100000
set_option maxHeartbeats 4000000
open Go.RowKit Go.Shelf
theorem tj{l:List Int}{j:Nat}(h:j<l.length):gi l j=l[j]:=by simp[gi,h]
theorem wq{l:List Int}(h:jj l){i j:Nat}(hij:i<j)(hj:j<l.length):gi l i<gi l j:=by
 rw[tj (by omega),tj hj];exact List.pairwise_iff_getElem.1 h.1 i j (by omega) hj hij
theorem ajs{l:List Int}(h:jj l){j:Nat}(hj:j<l.length):0<=gi l j:=by
 rw[tj hj];exact h.2 _ (List.getElem_mem hj)
theorem ai1{l:List Int}{j:Nat}(hj:j<l.length):gi l j∈l:=by rw[tj hj];exact List.getElem_mem hj
theorem aq1{l:List Int}{x:Int}(h:x∈l):∃j,j<l.length/\gi l j=x:=by
 obtain⟨j,hj,he⟩:=List.getElem_of_mem h;exact⟨j,hj,by rw[tj hj];exact he⟩
theorem gg.news{w:World}{ad:Option Addr}{l:List Int}{m:Nat}(h:gg w ad l.length (gi l) m):ag0 w ad l.length (ga l):=by
 rcases h with h|⟨b,o,ha,hlt,hc⟩
 ·exact .inl h
 ·refine .inr ⟨b,o,ha,fun j u hj=>?_⟩
  have hlt:j<l.length:=by
   rcases Nat.lt_or_ge j l.length with h|h
   ·exact h
   ·rw[eb (by rw[iw];exact h)]at hj;cases hj
  rw[acp l j hlt]at hj;cases hj;exact hc j hlt
theorem wz(l:List Int):∀u∈ga l,u.oneCell'=true:=by
 intro u hu;obtain⟨x,_,rfl⟩:=List.mem_map.1 hu;rfl
theorem apk{w w':World}{ad:Option Addr}{n m C:Nat}{A:Nat->Int}(h:gg w ad n A m)(hb:Ex [C] w w')(hm:m<=w.heap.size)(hn:0<n->∀a,ad=some a->a.block≠C):gg w' ad n A m:=by
 by_cases h0:n=0
 ·exact .inl h0
 ·rcases h with h|⟨b,o,ha,hlt,hc⟩
  ·omega
  ·refine .inr ⟨b,o,ha,hlt,fun j hj=>(hb.cell (az hlt hm) ?_ _).trans (hc j hj)⟩
   have:=hn (by omega) _ ha;simpa using this
theorem gg.ne{w:World}{ad:Option Addr}{n m C:Nat}{A:Nat->Int}(h:gg w ad n A m)(hm:m<=C)(hn:0<n):∀a,ad=some a->a.block≠C:=by
 intro a ha;rcases h with h|⟨b,o,hb,hlt,_⟩
 ·omega
 ·rw[ha]at hb
  cases hb;show b≠C;omega
theorem nd{l:List Int}(p:Int->Bool){k:Nat}(hk:k<l.length):(l.take (k+1)).filter p=(l.take k).filter p++(if p (gi l k)=true then[gi l k]else[]):=by
 rw[da hk,List.filter_append,tj hk];congr 1;cases h:p l[k]<;>simp[h]
theorem jd(l m:List Int):ga (l++m)=ga l++ga m:=by simp[ga]
theorem Ex.dup{S:List Nat}{a b c:World}(h:Ex S a b)(k:Ex S b c):Ex S a c:=(h.trans k).mono (by intro x hx;left;simpa using hx)
def aco(l:List Int)(k:Nat):Int:=if k=0 then -1 else gi l (k-1)
theorem aq7{l:List Int}(h:jj l){k:Nat}(hk:k<l.length):aco l k<gi l k:=by
 unfold aco;split
 ·have:=ajs h hk;omega
 ·exact wq h (by omega) hk
theorem aio(l:List Int)(k:Nat):aco l (k+1)=gi l k:=by simp[aco]
theorem ka(l:List Int)(hr:jj l)(hl:(l.length:Int)<=100000)(ad:Option Addr)(cap:Nat)(w:World)(hR:gg w ad l.length (gi l) w.heap.size):
 Calls prog 112 #[.slice ad l.length cap] w fun e w'=>e=.returned (.bool true)/\w'=w:=by
 have HR:=aa hR;clear hR;go_enter func112,ntmps112;go_wp2_with fail
 go_loopw[3,8] (fun la i wr=>∃k:Nat,k<=l.length/\i=.int .i64 (k:Nat)/\la=.int .i64 (aco l k)/\wr=w) (fun _ i _=>l.length-(intOf i).toNat)
 case atStart=>exact⟨0,cx _,rfl,rfl,rfl⟩
 case round=>
  obtain⟨k,hk,rfl,rfl,rfl⟩:=hrel;by_cases hlt:k<l.length
  ·obtain⟨b,o,rfl,hb,c0⟩:=HR.out.at hlt
   have hki:(k:Int)<l.length:=by omega
   have hlast:=aq7 hr hlt;have hle:¬(gi l k<=aco l k):=by omega
   clear hlast;have hs:=aa (aio l k);go_wp2_with fail
   exact⟨⟨k+1,by omega,by go_num,by rw[hs.out],trivial⟩,by simp[intOf];omega⟩
  ·have hki:¬(k:Int)<l.length:=by omega
   go_wp2_with fail
   go_ret;exact⟨rfl,rfl⟩
structure ym(w:World)(AT LB:Nat)(l:List Int)(k:Nat):Prop where
 at_:At w AT (.cells #[.int .i64 (k:Nat)] 3)
 lb:∃ad cap,At w LB (.cells #[.slice ad l.length cap] 24)/\gg w ad l.length (gi l) AT
 le:k<=l.length
 lt:AT≠LB
theorem ym.below{w w':World}{AT LB:Nat}{l:List Int}{k m:Nat}(h:ym w AT LB l k)(hb:Below m w w')(h1:AT<m)(h2:LB<m):ym w' AT LB l k:=by
 obtain⟨g1,⟨ad,cap,g2,g3⟩,g4,g5⟩:=h;exact⟨g1.below hb h1,⟨ad,cap,g2.below hb h2,g3.below hb (dj h1)⟩,g4,g5⟩
theorem ym.step{w:World}{AT LB:Nat}{l:List Int}{k:Nat}(h:ym w AT LB l k)(hk:k<l.length):ym (w.setCell ⟨AT,0,none⟩ (.int .i64 ((k:Int)+1))) AT LB l (k+1):=by
 obtain⟨g1,⟨ad,cap,g2,g3⟩,g4,g5⟩:=h;refine⟨by simpa using g1.set 0 (.int .i64 ((k:Int)+1)),⟨ad,cap,g2.far g5 _,g3.below ((aw AT w).setCell ac _) ac⟩,hk,g5⟩
theorem acw(l:List Int)(ad:Option Addr)(cap:Nat)(w:World)(hR:gg w ad l.length (gi l) w.heap.size):
 Calls prog 216 #[.slice ad l.length cap] w fun e w'=>∃AT LB,e=.returned (.func (.func 234) #[] #[.pointer (some ⟨AT,0,none⟩),.pointer (some ⟨LB,0,none⟩)])/\ym w' AT LB l 0/\w.heap.size<=AT/\w.heap.size<=LB/\Below w.heap.size w w':=by
 have hb:=(((aw w.heap.size w).alloc ac (.cells #[.slice ad l.length cap] 24)).alloc (by simp) (.cells #[.int .i64 0] 3));have h1:=(At.new w (.cells #[.slice ad l.length cap] 24)).alloc (.cells #[.int .i64 0] 3);have h2:=At.new (w.alloc (.cells #[.slice ad l.length cap] 24)) (.cells #[.int .i64 0] 3);rw[bg]at h2;have HF:=aa (show ym ((w.alloc (.cells #[.slice ad l.length cap] 24)).alloc (.cells #[.int .i64 0] 3)) (w.heap.size+1) w.heap.size l 0 from⟨h2,⟨ad,cap,h1,(hR.below hb ac).mono (dt _)⟩,cx _,Nat.succ_ne_self _⟩);have HB:=aa hb;clear hb h1 h2 hR;go_enter func216,ntmps216;go_wp2_with fail
 go_ret;exact⟨w.heap.size+1,w.heap.size,rfl,HF.out,dt _,ac,HB.out⟩
def cellI(w:World)(B:Nat):Nat:=match w.cell? ⟨B,0,none⟩with|some (.int _ n)=>n.toNat|_=>0
theorem ago{w:World}{B k:Nat}(h:At w B (.cells #[.int .i64 (k:Nat)] 3)):cellI w B=k:=by
 have:=h.cell 0;simp only[ak,am]at this;unfold cellI;rw[this];simp
theorem abs(AT LB:Nat)(l:List Int)(hr:jj l)(hl:(l.length:Int)<=100000)(x:Int)(k:Nat)(hk:∀j,j<k->gi l j<x)(w:World)(H:ym w AT LB l k):
 Calls prog 234 #[.int .i64 x,.pointer (some ⟨AT,0,none⟩),.pointer (some ⟨LB,0,none⟩)] w fun e w'=>e=.returned (.bool (decide (x∈l)))/\Ex [AT] w w'/\∃k',ym w' AT LB l k'/\∀j,j<k'->gi l j<x:=by
 have HH:=aa H;have HK:=aa hk;clear H hk;go_enter func234,ntmps234;go_wp2_with fail
 go_loopw[] (fun wr=>∃k:Nat,ym wr AT LB l k/\(∀j,j<k->gi l j<x)/\Ex [AT] w wr) (fun wr=>l.length-cellI wr AT)
 case atStart=>exact⟨k,HH.out,HK.out,Ex.refl _ _⟩
 case round=>
  obtain⟨k,H,hk,he⟩:=hrel;have hka:=H.at_;have hle:=H.le;obtain⟨ad,cap,hlb,hrow⟩:=H.lb;have c0:=hka.cell 0;have z0:=hka.free 0;have al:=hka.lt;have d0:=hlb.cell 0;have dl:=hlb.lt;simp only[ak,am]at c0 d0;have HA:=aa H;have HE:=aa he;have HK:=aa hk;clear hka hlb H he hk;have fin:Hid (gi l k≠x\/l.length<=k->¬(k<l.length/\gi l k<x)->decide (x∈l)=false):=aa fun h1 h2=>by
   rw[dw];intro hm;obtain⟨j,hj,e⟩:=aq1 hm;rcases Nat.lt_trichotomy j k with h|rfl|h
   ·have:=HK.out j h;omega
   ·rcases h1 with h1|h1
    ·exact h1 e
    ·omega
   ·have:=wq hr h hj
    rcases h1 with h1|h1
    ·exact h2 ⟨by omega,by omega⟩
    ·omega
  by_cases hlt:k<l.length
  ·obtain⟨b,o,rfl,hb,e0⟩:=hrow.at hlt
   have hki:(k:Int)<l.length:=by omega
   by_cases hx:gi l k<x
   ·go_wp2_with fail
    have HB:=HA.out.step hlt;go_roundw
    case rel=>exact⟨k+1,HB,fun j hj=>by
     by_cases h:j<k
     ·exact HK.out j h
     ·obtain rfl:j=k:=by omega
      exact hx,HE.out.set AT 0 _ (by simp)⟩
    case measure=>rw[ago HB.at_,ago HA.out.at_];omega
   ·by_cases hxe:gi l k=x
    ·have hd:decide (x∈l)=true:=by rw[decide_eq_true_iff,<-hxe];exact ai1 hlt
     have Hd:=aa hd;have g:(gi l k==x)=true:=by rw[beq_iff_eq];exact hxe
     clear hd hxe;go_wp2_with fail
     go_ret;exact⟨by rw[Hd.out];rfl,HE.out,k,HA.out,HK.out⟩
    ·have hd:=aa (fin.out (.inl hxe) (fun h=>hx h.2))
     have g:(gi l k==x)=false:=by rw[ax];exact hxe
     clear hxe;go_wp2_with fail
     go_ret;exact⟨by rw[hd.out];rfl,HE.out,k,HA.out,HK.out⟩
  ·have hd:=aa (fin.out (.inr (by omega)) (fun h=>hlt h.1))
   have hki:¬(k:Int)<l.length:=by omega
   go_wp2_with fail
   go_ret;exact⟨by rw[hd.out];rfl,HE.out,k,HA.out,HK.out⟩
theorem afz(C:Nat)(LB:Nat)(l:List Int)(hr:jj l)(hl:(l.length:Int)<=100000)(ad:Option Addr)(cap:Nat)(p:Int->Bool)(I:Nat->World->Prop)(w:World)(hC:C<w.heap.size)(hCr:0<l.length->∀a,ad=some a->a.block≠C)(hR:gg w ad l.length (gi l) w.heap.size)(h0:I 0 w)
 (hcall:∀k w',k<l.length->I k w'->Calls prog 234 #[.int .i64 (gi l k),.pointer (some ⟨C,0,none⟩),.pointer (some ⟨LB,0,none⟩)] w' fun e w''=>e=.returned (.bool (p (gi l k)))/\Ex [C] w' w''/\I (k+1) w'') (hI:∀k w' w'',I k w'->w.heap.size<=w'.heap.size->Below w.heap.size w' w''->I k w''):
 Calls prog 215 #[.slice ad l.length cap,.func (.func 234) #[] #[.pointer (some ⟨C,0,none⟩),.pointer (some ⟨LB,0,none⟩)]] w fun e w'=>∃v,e=.returned v/\w'.ownsRow w.heap.size 3 1 v (l.filter p).length (ga (l.filter p))/\Ex [C] w w'/\I l.length w':=by
 have h1:=aa fun w' h=>ka l hr hl ad cap w' h
 have HR:=aa hR;have HC:=aa hcall;have HI:=aa hI;have H0:=aa h0;have HCr:=aa hCr;have HCl:=aa hC;clear hR hcall hI h0 hCr hC;go_enter func215,ntmps215;go_wp2_with(go_at_call 112;refine(h1.out w HR.out).mono ?_;rintro e w1⟨rfl,rfl⟩)
 go_loopw[5,13] (fun v i wr=>∃k:Nat,k<=l.length/\i=.int .i64 (k:Nat)/\wr.ownsRow w1.heap.size 3 1 v ((l.take k).filter p).length (ga ((l.take k).filter p))/\I k wr/\Ex [C] w1 wr) (fun _ i _=>l.length-(intOf i).toNat)
 case atStart=>exact⟨0,cx _,rfl,bj _ _ _ _,H0.out,Ex.refl _ _⟩
 case round=>
  obtain⟨k,hk,rfl,hown,hi,he⟩:=hrel;have hz:=he.size;have hlen:((l.take k).filter p).length<=k:=ba (d9 _ _) (List.length_take_le _ _);have HO:=aa hown;have HIk:=aa hi;have HE:=aa he;obtain⟨ad5,c5,rfl⟩:=ey hown;clear hown hi he;by_cases hlt:k<l.length
  ·obtain⟨b,o,rfl,hb,e0⟩:=(show gg wr ad l.length (gi l) w1.heap.size from apk HR.out HE.out ac HCr.out).at hlt
   have hki:(k:Int)<l.length:=by omega
   have hc:=aa (HC.out k wr hlt HIk.out);have hs:=aa (nd p hlt);cases hp:p (gi l k)
   ·rw[hp]at hc hs
    go_wp2_with(go_at_call 234;refine hc.out.mono ?_;rintro e w2⟨rfl,he2,hi2⟩)
    go_roundw
    case rel=>exact⟨k+1,hlt,by go_num,by rw[hs.out];simpa using jl HO.out he2 HCl.out,hi2,HE.out.dup he2⟩
    case measure=>simp[intOf];omega
   ·rw[hp]at hc hs
    go_wp2_with(first|(go_at_call 234;refine hc.out.mono ?_;rintro e w2⟨rfl,he2,hi2⟩;have HO2:=aa (jl HO.out he2 HCl.out);have HE2:=aa (HE.out.dup he2);have HI2:=aa hi2;clear he2 hi2;have HNz:=aa HE2.out.size)|(at_builtin;refine gr iv rfl _ _ rfl rfl HO2.out [.int .i64 (gi l k)] rfl rfl (by simp[Value.oneCell']) (by unfold maxLen;omega) (by omega) HNz.out ?_;intro v9 w9 hown9 hb9 hk9;have HO9:=aa hown9;have HB9:=aa hb9;clear hown9 hb9 hk9))
    go_roundw
    case rel=>exact⟨k+1,hlt,by go_num,by rw[hs.out,jd,bd];exact HO9.out,HI.out _ _ _ HI2.out HNz.out HB9.out,HE2.out.far HB9.out ac⟩
    case measure=>simp[intOf];omega
  ·have hki:¬(k:Int)<l.length:=by omega
   obtain rfl:k=l.length:=by omega
   rw[dr]at HO;go_wp2_with fail
   go_ret;exact⟨_,rfl,HO.out,HE.out,HIk.out⟩
theorem af0(C:Nat)(l:List Int)(hr:jj l)(hl:(l.length:Int)<=100000)(ad:Option Addr)(cap:Nat)(p:Int->Bool)(I:Nat->World->Prop)(w:World)(hC:C<w.heap.size)(hCr:0<l.length->∀a,ad=some a->a.block≠C)(hR:gg w ad l.length (gi l) w.heap.size)(h0:I 0 w)
 (hcall:∀k w',k<l.length->I k w'->Calls prog 217 #[.int .i64 (gi l k),.pointer (some ⟨C,0,none⟩)] w' fun e w''=>e=.returned (.bool (p (gi l k)))/\Ex [C] w' w''/\I (k+1) w'') (hI:∀k w' w'',I k w'->w.heap.size<=w'.heap.size->Below w.heap.size w' w''->I k w''):
 Calls prog 215 #[.slice ad l.length cap,.func (.func 217) #[] #[.pointer (some ⟨C,0,none⟩)]] w fun e w'=>∃v,e=.returned v/\w'.ownsRow w.heap.size 3 1 v (l.filter p).length (ga (l.filter p))/\Ex [C] w w'/\I l.length w':=by
 have h1:=aa fun w' h=>ka l hr hl ad cap w' h
 have HR:=aa hR;have HC:=aa hcall;have HI:=aa hI;have H0:=aa h0;have HCr:=aa hCr;have HCl:=aa hC;clear hR hcall hI h0 hCr hC;go_enter func215,ntmps215;go_wp2_with(go_at_call 112;refine(h1.out w HR.out).mono ?_;rintro e w1⟨rfl,rfl⟩)
 go_loopw[5,13] (fun v i wr=>∃k:Nat,k<=l.length/\i=.int .i64 (k:Nat)/\wr.ownsRow w1.heap.size 3 1 v ((l.take k).filter p).length (ga ((l.take k).filter p))/\I k wr/\Ex [C] w1 wr) (fun _ i _=>l.length-(intOf i).toNat)
 case atStart=>exact⟨0,cx _,rfl,bj _ _ _ _,H0.out,Ex.refl _ _⟩
 case round=>
  obtain⟨k,hk,rfl,hown,hi,he⟩:=hrel;have hz:=he.size;have hlen:((l.take k).filter p).length<=k:=ba (d9 _ _) (List.length_take_le _ _);have HO:=aa hown;have HIk:=aa hi;have HE:=aa he;obtain⟨ad5,c5,rfl⟩:=ey hown;clear hown hi he;by_cases hlt:k<l.length
  ·obtain⟨b,o,rfl,hb,e0⟩:=(show gg wr ad l.length (gi l) w1.heap.size from apk HR.out HE.out ac HCr.out).at hlt
   have hki:(k:Int)<l.length:=by omega
   have hc:=aa (HC.out k wr hlt HIk.out);have hs:=aa (nd p hlt);cases hp:p (gi l k)
   ·rw[hp]at hc hs
    go_wp2_with(go_at_call 217;refine hc.out.mono ?_;rintro e w2⟨rfl,he2,hi2⟩)
    go_roundw
    case rel=>exact⟨k+1,hlt,by go_num,by rw[hs.out];simpa using jl HO.out he2 HCl.out,hi2,HE.out.dup he2⟩
    case measure=>simp[intOf];omega
   ·rw[hp]at hc hs
    go_wp2_with(first|(go_at_call 217;refine hc.out.mono ?_;rintro e w2⟨rfl,he2,hi2⟩;have HO2:=aa (jl HO.out he2 HCl.out);have HE2:=aa (HE.out.dup he2);have HI2:=aa hi2;clear he2 hi2;have HNz:=aa HE2.out.size)|(at_builtin;refine gr iv rfl _ _ rfl rfl HO2.out [.int .i64 (gi l k)] rfl rfl (by simp[Value.oneCell']) (by unfold maxLen;omega) (by omega) HNz.out ?_;intro v9 w9 hown9 hb9 hk9;have HO9:=aa hown9;have HB9:=aa hb9;clear hown9 hb9 hk9))
    go_roundw
    case rel=>exact⟨k+1,hlt,by go_num,by rw[hs.out,jd,bd];exact HO9.out,HI.out _ _ _ HI2.out HNz.out HB9.out,HE2.out.far HB9.out ac⟩
    case measure=>simp[intOf];omega
  ·have hki:¬(k:Int)<l.length:=by omega
   obtain rfl:k=l.length:=by omega
   rw[dr]at HO;go_wp2_with fail
   go_ret;exact⟨_,rfl,HO.out,HE.out,HIk.out⟩
end
section
set_option maxRecDepth 100000
set_option maxHeartbeats 4000000
open Go.RowKit Go.Shelf
def andL(a b:List Int):List Int:=a.filter fun x=>decide (x∈b)
def zq(l:List Int)(n:Nat):List Int:=((List.range n).map Int.ofNat).filter fun x=>decide (x∉l)
theorem am0(l:List Int)(k:Nat):zq l (k+1)=zq l k++(if decide ((k:Int)∈l)=true then[]else[(k:Int)]):=by
 unfold zq;rw[List.range_succ,ep,List.filter_append];congr 1;by_cases h:(k:Int)∈l<;>simp[h]
theorem aqt(l:List Int)(k:Nat):(zq l k).length<=k:=by
 unfold zq;refine ba (d9 _ _) ?_;simp
theorem ahg(a b:List Int)(ha:jj a)(hb:jj b)(hla:(a.length:Int)<=100000)(hlb:(b.length:Int)<=100000)(ad:Option Addr)(ca:Nat)(ad':Option Addr)(cb:Nat)(w:World)(hA:gg w ad a.length (gi a) w.heap.size)(hB:gg w ad' b.length (gi b) w.heap.size):
 Calls prog 167 #[.slice ad a.length ca,.slice ad' b.length cb] w fun e w'=>∃v,e=.returned v/\w'.ownsRow w.heap.size 3 1 v (andL a b).length (ga (andL a b))/\Below w.heap.size w w':=by
 have h1:=aa (ka b hb hlb ad' cb w hB);have h2:=aa (acw b ad' cb w hB);have h3:=aa fun C LB I w' q1 q2 q3 q4 q5 q6=>afz C LB a ha hla ad ca (fun x=>decide (x∈b)) I w' q1 q2 q3 q4 q5 q6
 have HA:=aa hA;clear hA hB;go_enter func167,ntmps167;go_wp2_with(first|(go_at_call 112;refine h1.out.mono ?_;rintro e w1⟨rfl,rfl⟩)|(go_at_call 216;refine h2.out.mono ?_;rintro e w2⟨AT,LB,rfl,hal,hAT,hLB,hb2⟩;have HAL:=aa hal;have HB2:=aa hb2;have HAT:=aa hAT;have HLB:=aa hLB;clear hal hAT hLB hb2))
 go_at_call 215;refine(h3.out AT LB (fun k w'=>∃j,ym w' AT LB b j/\∀i,i<j->∀m,k<=m->m<a.length->gi b i<gi a m) w2 HAL.out.at_.lt (fun hn=>HA.out.ne HAT.out hn) ((HA.out.below HB2.out ac).mono HB2.out.size) ⟨0,HAL.out,fun i hi=>by omega⟩ ?_ ?_).mono ?_
 ·rintro k w' hk⟨j,hj,hlt⟩
  refine(abs AT LB b hb hlb (gi a k) j (fun i hi=>hlt i hi k ac hk) w' hj).mono ?_;rintro e w''⟨rfl,he,j',hj',hlt'⟩;refine⟨rfl,he,j',hj',fun i hi m hm hml=>?_⟩;have:=hlt' i hi;have:=wq ha (show k<m by omega) hml;omega
 ·rintro k w' w''⟨j,hj,hlt⟩hz hb'
  obtain⟨ad5,cap5,g,-⟩:=HAL.out.lb;exact⟨j,hj.below hb' HAL.out.at_.lt g.lt,hlt⟩
 ·rintro e w3⟨v,rfl,ho,he,-⟩
  have HO:=aa ho;have HE:=aa he;clear ho he;go_wp2_with fail
  go_ret;exact⟨v,rfl,fx HO.out HB2.out.size,HB2.out.trans (HE.out.below HB2.out.size (by intro x hx;rw[cd.1 hx];exact HAT.out))⟩
theorem ahf(l:List Int)(hr:jj l)(hl:(l.length:Int)<=100000)(n:Nat)(hn:n<=1000)(ad:Option Addr)(cap:Nat)(w:World)(hR:gg w ad l.length (gi l) w.heap.size):
 Calls prog 169 #[.slice ad l.length cap,.int .i64 (n:Nat)] w fun e w'=>∃v,e=.returned v/\w'.ownsRow w.heap.size 3 1 v (zq l n).length (ga (zq l n))/\Below w.heap.size w w':=by
 have h1:=aa (ka l hr hl ad cap w hR);have h2:=aa (acw l ad cap w hR);have h3:=aa fun AT LB x k hk w' h=>abs AT LB l hr hl x k hk w' h
 have hni:(n:Int)<=1000:=by omega
 have hn0:(0:Int)<=n:=by omega
 have hm:min (n:Int) 100000=n:=by omega
 have hm2:max 0 (n:Int)=n:=by omega
 clear hR;go_enter func169,ntmps169;go_wp2_with fail
 go_step3;go_wp2_with(first|(go_at_call 112;refine h1.out.mono ?_;rintro e w1⟨rfl,rfl⟩)|(go_at_call 216;refine h2.out.mono ?_;rintro e w2⟨AT,LB,rfl,hal,hAT,hLB,hb2⟩;have HAL:=aa hal;have HB2:=aa hb2;have HAT:=aa hAT;have HLB:=aa hLB;clear hal hAT hLB hb2))
 go_step3;go_wp2_with fail
 go_loopw[5,16] (fun v i wr=>∃k:Nat,k<=n/\i=.int .i64 (k:Nat)/\wr.ownsRow w2.heap.size 3 1 v (zq l k).length (ga (zq l k))/\(∃j,ym wr AT LB l j/\∀i,i<j->gi l i<(k:Int))/\Ex [AT] w2 wr) (fun _ i _=>n-(intOf i).toNat)
 case atStart=>exact⟨0,cx _,rfl,bj _ _ _ _,⟨0,HAL.out,fun i hi=>by omega⟩,Ex.refl _ _⟩
 case round=>
  obtain⟨k,hk,rfl,hown,⟨j,hj,hlt⟩,he⟩:=hrel;have hlen:=aqt l k;have HO:=aa hown;have HJ:=aa hj;have HLt:=aa hlt;have HE:=aa he;have HCl:=aa HAL.out.at_.lt;obtain⟨ad5,c5,rfl⟩:=ey hown;clear hown hj hlt he;by_cases hkn:k<n
  ·have hki:(k:Int)<n:=by omega
   have hc:=aa (h3.out AT LB (k:Nat) j HLt.out wr HJ.out);have hs:=aa (am0 l k);cases hp:decide ((k:Int)∈l)
   ·rw[hp]at hc hs
    go_wp2_with(first|(go_at_call 234;refine hc.out.mono ?_;rintro e w3⟨rfl,he3,j',hj',hlt'⟩;have HO2:=aa (jl HO.out he3 HCl.out);have HE2:=aa (HE.out.dup he3);have HJ2:=aa hj';have HL2:=aa hlt';clear he3 hj' hlt';have HNz:=aa HE2.out.size)|(at_builtin;refine gr iv rfl _ _ rfl rfl HO2.out [.int .i64 (k:Nat)] rfl rfl (by simp[Value.oneCell']) (by unfold maxLen;omega) (by omega) HNz.out ?_;intro v9 w9 hown9 hb9 hk9;have HO9:=aa hown9;have HB9:=aa hb9;clear hown9 hb9 hk9))
    go_roundw
    case rel=>exact⟨k+1,hkn,by go_num,by rw[hs.out,jd,bd];exact HO9.out,⟨j',HJ2.out.below HB9.out HCl.out (by obtain⟨a5,c5,g,-⟩:=HAL.out.lb;exact g.lt),fun i hi=>by have:=HL2.out i hi;omega⟩,HE2.out.far HB9.out ac⟩
    case measure=>simp[intOf];omega
   ·rw[hp]at hc hs
    go_wp2_with(go_at_call 234;refine hc.out.mono ?_;rintro e w3⟨rfl,he3,j',hj',hlt'⟩)
    go_roundw
    case rel=>exact⟨k+1,hkn,by go_num,by rw[hs.out];simpa using jl HO.out he3 HCl.out,⟨j',hj',fun i hi=>by have:=hlt' i hi;omega⟩,HE.out.dup he3⟩
    case measure=>simp[intOf];omega
  ·have hki:¬(k:Int)<n:=by omega
   obtain rfl:k=n:=by omega
   go_wp2_with fail
   try rw[Exit.noGoto_ret]
   go_ret;exact⟨_,rfl,fx HO.out HB2.out.size,HB2.out.trans (HE.out.below HB2.out.size (by intro x hx;rw[cd.1 hx];exact HAT.out))⟩
end
end Go.Proofs.YtjfkmoinldlmaaaGreat
