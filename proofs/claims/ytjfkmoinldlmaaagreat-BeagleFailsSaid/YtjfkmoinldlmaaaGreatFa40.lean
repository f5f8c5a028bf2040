/- The walk of BeagleFails, part 40. Walk of eval.Check at any tree. Walk of the reference's item. Walk of the reference's item at a Shift. Walk of the reference's item at a pattern and at a bracket. Walk of the reference's item at a bracket; all of item. -/
import Derived.Test.YtjfkmoinldlmaaaGreatFa33
import Derived.Deep.RegionWith
namespace Go.Proofs.YtjfkmoinldlmaaaGreat
open Go.Proofs.Tryz
section
set_option maxRecDepth 100000
set_option maxHeartbeats 8000000
open Go.RowKit Go.Shelf
def aoi(T:QT)(F sz:Int)(w:World)(e:Ending)(w':World):Prop:=
 ∃c:Int,e=.returned (.int .i64 c)/\Below w.heap.size w w'/\((0<c/\c<200/\¬(F=0/\sz=0/\ir T=true))\/(c=0/\ir T=true))
theorem an1(T:QT)(hl:(ew T).length<=2000)(hE:∀x∈ew T,x.els.length<=2000)(ad:Option Addr)(cap:Nat)(hc:(ew T).length<=cap)(F sz:Int)(w:World)(hN:gd w ad (ew T)):
 Calls prog 106 #[.slice ad (ew T).length cap,.agg #[.int .i64 F,.int .i64 sz]] w (aoi T F sz w):=by
 have QL:=aa fun w'=>pg sz w'
 have QR:=aa fun w'(hb:Below w.heap.size w w')=>aav T hl hE ad cap hc w' (hN.below hb)
 have QG:=aa fun w'(hb:Below w.heap.size w w')=>yw (ew T) hl hE ad cap w' (hN.below hb)
 have HG:=aa (At.new w (.cells #[.int .i64 F,.int .i64 sz] 35));have hG0:=HG.out.cell 0;have hG1:=HG.out.cell 1;have hGL:=HG.out.lt;simp only[ak,am,au]at hG0 hG1;have hA:=(aw w.heap.size w).alloc ac (.cells #[.int .i64 F,.int .i64 sz] 35);have HA:=aa hA;clear hA hN hE;generalize hR:ir T=R at *;have HR:=aa hR;clear hR;generalize (ew T).length=N at *;have hlng:(te (fy (ew T)):Int)>=0:=by omega
 generalize te (fy (ew T))=G at *;generalize lgV sz=lv at *;have hz1:sz≠0->(sz !=0)=true/\(sz==0)=false:=fun h=>⟨by rw[bne_iff_ne];exact h,by rw[ax];exact h⟩
 generalize lgB sz=B at *;have hD:R=false\/(R=true/\(F<0\/(¬F<0/\(5<F\/(¬5<F/\(sz=0\/(((sz !=0)=true/\(sz==0)=false)/\(B=false\/(B=true/\(decide (sz<(G:Int))=true\/decide (sz<(G:Int))=false)))))))))):=by
  cases R<;>cases B<;>by_cases h1:F<0<;>by_cases h2:5<F<;>by_cases h3:sz=0<;>by_cases h4:sz<(G:Int)<;>simp[h1,h2,h3,h4]
 clear hz1;have nz:sz≠0->¬(F=0/\sz=0/\ir T=true):=fun h k=>h k.2.1
 rcases hD with rfl|⟨rfl,h|⟨h,h'|⟨h',rfl|⟨⟨h1,h2⟩,rfl|⟨rfl,h3|h3⟩⟩⟩⟩⟩
 all_goals(go_enter func106,ntmps106)
 all_goals go_wp2_with(first|(go_at_call 48;(with_reducible refine(QL.out _).mono ?_);rintro e w1⟨rfl,hb1⟩;have B1:=aa (HA.out.trans (hb1.mono HA.out.size));have G0:=(HG.out.below hb1 HG.out.lt).cell 0;have G1:=(HG.out.below hb1 HG.out.lt).cell 1;have GL:=(HG.out.below hb1 HG.out.lt).lt;have HG1:=aa (HG.out.below hb1 HG.out.lt);simp only[ak,am,au]at G0 G1;clear hb1 hG0 hG1 hGL)|(go_at_call 113;(with_reducible refine(QR.out _ B1.out).mono ?_);rintro e w2⟨rfl,hb2⟩;have B2:=aa (B1.out.trans (hb2.mono B1.out.size));have HG2:=aa (HG1.out.below hb2 HG1.out.lt);clear G0 G1 GL;have G0:=(HG1.out.below hb2 HG1.out.lt).cell 0;have G1:=(HG1.out.below hb2 HG1.out.lt).cell 1;have GL:=(HG1.out.below hb2 HG1.out.lt).lt;simp only[ak,am,au]at G0 G1;clear hb2))
 rotate_left 5
 ·go_region_with(go_at_call 107;(with_reducible refine(QG.out _ ?_).mono ?_);exact B2.out.drew;rintro e w3⟨rfl,hb3⟩;have B3:=aa (B2.out.drew.trans (hb3.mono B2.out.drew.size));have hK3:=(show At w2.drew w.heap.size (.cells #[.int .i64 F,.int .i64 sz] 35)from HG2.out).below hb3 HG2.out.lt;have K1:=hK3.cell 1;have KL:=hK3.lt;clear hK3;simp only[ak,am,au]at K1;clear hb3)
  all_goals(go_wp2_with fail)
  all_goals go_ret
  all_goals exact⟨50,rfl,B3.out,.inl ⟨by decide,by decide,nz (by rintro rfl;cases h1)⟩⟩
 ·go_region_with(go_at_call 107;(with_reducible refine(QG.out _ ?_).mono ?_);exact B2.out.drew;rintro e w3⟨rfl,hb3⟩;have B3:=aa (B2.out.drew.trans (hb3.mono B2.out.drew.size));have hK3:=(show At w2.drew w.heap.size (.cells #[.int .i64 F,.int .i64 sz] 35)from HG2.out).below hb3 HG2.out.lt;have K1:=hK3.cell 1;have KL:=hK3.lt;clear hK3;simp only[ak,am,au]at K1;clear hb3)
  all_goals(go_wp2_with fail)
  all_goals go_ret
  all_goals exact⟨0,rfl,B3.out,.inr ⟨rfl,HR.out⟩⟩
 ·go_ret
  exact⟨180,rfl,B2.out,.inl ⟨by decide,by decide,fun k=>by rw[HR.out]at k;cases k.2.2⟩⟩
 ·go_ret
  exact⟨180,rfl,B2.out,.inl ⟨by decide,by decide,fun k=>by omega⟩⟩
 ·go_ret
  exact⟨180,rfl,B2.out,.inl ⟨by decide,by decide,fun k=>by omega⟩⟩
 ·go_wp2_with go_region
  go_ret;exact⟨0,rfl,B2.out.drew,.inr ⟨rfl,HR.out⟩⟩
 ·go_wp2_with go_region
  go_ret;exact⟨50,rfl,B2.out.drew,.inl ⟨by decide,by decide,nz (by rintro rfl;cases h1)⟩⟩
end
section
set_option maxRecDepth 100000
set_option maxHeartbeats 4000000
open Go.RowKit Go.Shelf
def oj(w0:World)(m:PM)(toks:List gq)(p:Nat)(e:Ending)(w':World):Prop:=
 ∃(r:Value)(ns:List QN)(vs:List Value)(nx:Nat)(bad:Bool),e=.returned (.agg #[r,.int .i64 (nx:Nat),.bool bad])/\ns.length+p<=nx/\nx<=toks.length/\w'.ownsRow w0.heap.size 81 4 r ns.length vs/\f9 (ju w') ns vs/\Below w0.heap.size w0 w'/\(bad=false->∃T,ns=ew T/\PR m (toks.drop p) T (toks.drop nx))
theorem n7{w0 w:World}{R p nx:Nat}{m:PM}{toks:List gq}{r:Value}{ns:List QN}{vs:List Value}{bad:Bool}{r0:Value}{n0:Int}{b0:Bool}{base:Nat}(hR:At w R (ie r0 n0 b0))(hR0:w0.heap.size<=R)(hRb:R<base)(h1:ns.length+p<=nx)(h2:nx<=toks.length)(hO:w.ownsRow base 81 4 r ns.length vs)(hV:f9 (ju w) ns vs)(hB:Below w0.heap.size w0 w)
 (hT:bad=false->∃T,ns=ew T/\PR m (toks.drop p) T (toks.drop nx)):oj w0 m toks p (.returned (.agg #[r,.int .i64 (nx:Nat),.bool bad])) (((w.setCell ⟨R,0,none⟩ r).setCell ⟨R,1,none⟩ (.int .i64 (nx:Nat))).setCell ⟨R,2,none⟩ (.bool bad)):=by
 have hE:=(((Ex.refl [R] w).set R 0 r (by simp)).set R 1 (.int .i64 (nx:Nat)) (by simp)).set R 2 (.bool bad) (by simp);refine⟨r,ns,vs,nx,bad,rfl,h1,h2,fx (jl hO hE hRb) (by omega),gw hV (Kt.at1 hE hR),hB.trans (hE.below hB.size (by simpa using hR0)),hT⟩
theorem apv(ad:Option Addr)(cap:Nat)(toks:List gq)(hl:toks.length<=1000)(p:Nat)(hk:ik toks p=5)
 (ih:∀w,il w 71 ad toks->Calls prog 100 #[.slice ad toks.length cap,.int .i64 ((p+1:Nat):Int)] w (oj w .item toks (p+1))) (w:World) (hT:il w 71 ad toks):
 Calls prog 100 #[.slice ad toks.length cap,.int .i64 (p:Nat)] w (oj w .item toks p):=by
 obtain⟨t,htj,htk,hpl,hdr⟩:=jz hk (by decide);have q1:=aa fun w' h=>jx ad cap toks hl p w' h
 rw[hk]at q1;have q2:=aa ih;have q3:=aa fun r nx bad ns vs hn base w' ho hv=>acf 4 0 r nx bad ns vs hn base w' ho hv
 have HR0:=aa (At.new w (ie (.slice none 0 0) 0 false));have hB0:=(aw w.heap.size w).alloc ac (ie (.slice none 0 0) 0 false);have HT0:=aa (hT.below hB0);have HB0:=aa hB0;have hpi:(p:Int)<=1000:=by omega
 have hdr':=aa hdr;have htk':=aa htk;clear hT hB0 htj hdr htk hk;go_enter func100,ntmps100;go_wp2_with(first|(go_at_call 55;refine(q1.out _ HT0.out).mono ?_;rintro e w1⟨rfl,rfl⟩)|(go_at_call 100;refine(q2.out _ HT0.out).mono ?_;rintro e w2⟨r2,ns2,vs2,nx2,bad2,rfl,hn2,hx2,ho2,hv2,hb2,ht2⟩;have HN2:=aa hn2;have HX2:=aa hx2;have HO2:=aa ho2;have HV2:=aa hv2;have HB2:=aa (HB0.out.trans (hb2.mono HB0.out.size));have HR2:=aa (HR0.out.below hb2 HR0.out.lt);have HT2:=aa ht2;clear hn2 hx2 ho2 hv2 hb2 ht2)|(go_at_call 153;refine(q3.out r2 nx2 bad2 ns2 vs2 (by have:=HN2.out;have:=HX2.out;omega) _ w2 HO2.out HV2.out).mono ?_;rintro e w3⟨r3,vs3,rfl,ho3,hv3,hb3⟩;obtain⟨a3,c3,rfl⟩:=ey ho3;have HO3:=aa ho3;have HV3:=aa hv3;have HB3:=aa (HB2.out.trans (hb3.mono HB2.out.size));have HR3:=aa (HR2.out.below hb3 HR2.out.lt);have HRl:=aa HR2.out.lt;clear ho3 hv3 hb3;have c0:=HR3.out.cell 0;have c1:=HR3.out.cell 1;have c2:=HR3.out.cell 2;have f0:=HR3.out.free 0;have f1:=HR3.out.free 1;have f2:=HR3.out.free 2;have rl:=HR3.out.lt;simp only[ak,am,au]at c0 c1 c2))
 refine ay (v:=.agg #[.slice a3 (ns2.length+1) c3,.int .i64 (nx2:Nat),.bool bad2]) (by simp[results,results100,go_sem, *]) rfl ?_;exact n7 (ns:=⟨4,0,[],0⟩::ns2) HR3.out ac HRl.out (by have:=HN2.out;simp;omega) HX2.out HO3.out HV3.out HB3.out (fun hb=>by
  obtain⟨T,hT,hP⟩:=HT2.out hb
  exact⟨.not T,by rw[hT];rfl,by rw[hdr'.out];exact .not t _ T _ htk'.out hP⟩)
theorem aps(ad:Option Addr)(cap:Nat)(toks:List gq)(hl:toks.length<=1000)(p:Nat)(hp:p<=toks.length)(h1:ik toks p≠1)(h5:ik toks p≠5)(h6:ik toks p≠6)(h8:ik toks p≠8)(w:World)(hT:il w 71 ad toks):
 Calls prog 100 #[.slice ad toks.length cap,.int .i64 (p:Nat)] w (oj w .item toks p):=by
 have q1:=aa fun w' h=>jx ad cap toks hl p w' h
 have HR0:=aa (At.new w (ie (.slice none 0 0) 0 false));have hB0:=(aw w.heap.size w).alloc ac (ie (.slice none 0 0) 0 false);have HT0:=aa (hT.below hB0);have HB0:=aa hB0;obtain⟨K,hK⟩:∃K,K=ik toks p:=⟨_,rfl⟩;rw[<-hK]at q1 h1 h5 h6 h8;have d1:((K:Int)==1)=false:=by rw[ax];omega
 have d5:((K:Int)==5)=false:=by rw[ax];omega
 have d6:((K:Int)==6)=false:=by rw[ax];omega
 have d8:((K:Int)==8)=false:=by rw[ax];omega
 clear hT hB0 h1 h5 h6 h8 hK;have hp':=aa hp;clear hp;go_enter func100,ntmps100;go_upto_region 1 with fail
 generalize (w.alloc (ie (.slice none 0 0) 0 false))=W0 at *;have c0:=HR0.out.cell 0;have c1:=HR0.out.cell 1;have c2:=HR0.out.cell 2;have f0:=HR0.out.free 0;have f1:=HR0.out.free 1;have f2:=HR0.out.free 2;have rl:=HR0.out.lt;simp only[ak,am,au]at c0 c1 c2;go_wp2_with(go_at_call 55;refine(q1.out _ HT0.out).mono ?_;rintro e w1⟨rfl,rfl⟩)
 refine ay (v:=.agg #[.slice none 0 0,.int .i64 (p:Nat),.bool true]) (by simp[results,results100,go_sem, *]) rfl ?_;exact n7 (base:=w.heap.size+1) (ns:=[]) HR0.out ac (Nat.lt_succ_self _) (by simp) hp'.out (bj _ _ _ _) .nil HB0.out (fun h=>by cases h)
end
section
set_option maxRecDepth 100000
set_option maxHeartbeats 1000000
open Go.RowKit Go.Shelf
theorem apu(ad:Option Addr)(cap:Nat)(toks:List gq)(hl:toks.length<=1000)(p:Nat)(hk:ik toks p=6)
 (ih:∀w,il w 71 ad toks->Calls prog 100 #[.slice ad toks.length cap,.int .i64 ((p+1:Nat):Int)] w (oj w .item toks (p+1))) (w:World) (hT:il w 71 ad toks):
 Calls prog 100 #[.slice ad toks.length cap,.int .i64 (p:Nat)] w (oj w .item toks p):=by
 obtain⟨t,htj,htk,hpl,hdr⟩:=jz hk (by decide);have q1:=aa fun w' h=>jx ad cap toks hl p w' h
 rw[hk]at q1;have q2:Hid (∀w,il w 71 ad toks->Calls prog 100 #[.slice ad toks.length cap,.int .i64 ((p:Int)+1)] w (oj w .item toks (p+1))):=aa fun w h=>by have:=ih w h;rwa[Int.natCast_succ]at this
 have hw:IntKind.i64.wrap ((p:Int)+1)=(p:Int)+1:=by rw[ci];omega
 have q3:Hid (∀(r:Value)(nx:Int)(bad:Bool)(ns:List QN)(vs:List Value),ns.length<=2000->∀(base:Nat)(w':World),w'.ownsRow base 81 4 r ns.length vs->f9 (ju w') ns vs->Calls prog 153 #[.agg #[.int .i64 5,.int .i64 (t.num:Nat),.slice none 0 0,.int .i64 0],.agg #[r,.int .i64 nx,.bool bad]] w' fun e w2=>∃r' vs',e=.returned (.agg #[r',.int .i64 nx,.bool bad])/\w2.ownsRow w'.heap.size 81 4 r' (ns.length+1) vs'/\f9 (ju w2) (⟨5,t.num,[],0⟩::ns) vs'/\Below w'.heap.size w' w2):=aa fun r nx bad ns vs hn base w' ho hv=>acf 5 t.num r nx bad ns vs hn base w' ho hv
 have HR0:=aa (At.new w (ie (.slice none 0 0) 0 false));have hB0:=(aw w.heap.size w).alloc ac (ie (.slice none 0 0) 0 false);have HT0:=aa (hT.below hB0);have HB0:=aa hB0;obtain⟨b,o,pa,pc,rfl,hb,-,-,c2,-,-⟩:=hT.at htj;have c2':=(hB0.cell (p:=⟨b,o+p*4+2,none⟩) hb).trans c2;have hb':b<(w.alloc (ie (.slice none 0 0) 0 false)).heap.size:=az hb hB0.size;have hpi:(p:Int)<=1000:=by omega
 have hpl2:(p:Int)<toks.length:=by omega
 have hdr':=aa hdr;have htk':=aa htk;clear hT hB0 htj hdr htk hk c2;go_enter func100,ntmps100;go_upto_region 1 with fail
 generalize (w.alloc (ie (.slice none 0 0) 0 false))=W0 at *;have HTd:=aa (show il W0.drew 71 (some ⟨b,o,none⟩) toks from HT0.out);have HBd:=aa (show Below w.heap.size w W0.drew from HB0.out.drew);have HRd:=aa (show At W0.drew w.heap.size (ie (.slice none 0 0) 0 false)from HR0.out);go_wp2_with(go_at_call 55;refine(q1.out _ HT0.out).mono ?_;rintro e w1⟨rfl,rfl⟩)
 go_region_with(first|(go_at_call 100;(with_reducible refine(q2.out _ HTd.out).mono ?_);rintro e w2⟨r2,ns2,vs2,nx2,bad2,rfl,hn2,hx2,ho2,hv2,hb2,ht2⟩;have d2:=(hb2.cell (p:=⟨b,o+p*4+2,none⟩) hb').trans c2';have HN2:=aa hn2;have HX2:=aa hx2;have HO2:=aa ho2;have HV2:=aa hv2;have HB2:=aa (HBd.out.trans (hb2.mono HBd.out.size));have HR2:=aa (HRd.out.below hb2 HRd.out.lt);have HT2:=aa ht2;clear hn2 hx2 ho2 hv2 hb2 ht2)|(go_at_call 153;(with_reducible refine(q3.out r2 nx2 bad2 ns2 vs2 (by have:=HN2.out;have:=HX2.out;omega) _ w2 HO2.out HV2.out).mono ?_);rintro e w3⟨r3,vs3,rfl,ho3,hv3,hb3⟩;obtain⟨a3,c3,rfl⟩:=ey ho3;have HO3:=aa ho3;have HV3:=aa hv3;have HB3:=aa (HB2.out.trans (hb3.mono HB2.out.size));have HR3:=aa (HR2.out.below hb3 HR2.out.lt);have HRl:=aa HR2.out.lt;clear ho3 hv3 hb3;have e0:=HR3.out.cell 0;have e1:=HR3.out.cell 1;have e2:=HR3.out.cell 2;have f0:=HR3.out.free 0;have f1:=HR3.out.free 1;have f2:=HR3.out.free 2;have rl:=HR3.out.lt;simp only[ak,am,au]at e0 e1 e2))
 all_goals(go_wp2_with fail)
 all_goals(refine ay (v:=.agg #[.slice a3 (ns2.length+1) c3,.int .i64 (nx2:Nat),.bool bad2]) (by simp[results,results100,go_sem, *]) rfl ?_)
 all_goals exact n7 (ns:=⟨5,t.num,[],0⟩::ns2) HR3.out ac HRl.out (by have:=HN2.out;simp;omega) HX2.out HO3.out HV3.out HB3.out (fun hb=>by
  obtain⟨T,hT,hP⟩:=HT2.out hb
  exact⟨.shift t.num T,by rw[hT];rfl,by rw[hdr'.out];exact .shift t _ T _ htk'.out hP⟩)
end
section
set_option maxRecDepth 100000
set_option maxHeartbeats 4000000
open Go.RowKit Go.Shelf
theorem aa5(w:World)(pa:Option Addr)(pc:Nat)(els:List (Nat->Bool))(k:Nat)(h:ft w 100 pa els.length (ji els)):ju w ⟨1,0,els,k⟩ [.int .i64 1,.int .i64 0,.slice pa els.length pc,.int .i64 (k:Nat)]:=⟨pa,pc,rfl,h⟩
theorem apt(ad:Option Addr)(cap:Nat)(toks:List gq)(hl:toks.length<=1000)(p:Nat)(hk:ik toks p=8)(w:World)(hT:il w 71 ad toks):
 Calls prog 100 #[.slice ad toks.length cap,.int .i64 (p:Nat)] w (oj w .item toks p):=by
 obtain⟨t,htj,htk,hpl,hdr⟩:=jz hk (by decide);have q1:=aa fun w' h=>jx ad cap toks hl p w' h
 rw[hk]at q1;have q2:Hid (∀w',il w' 71 ad toks->Calls prog 55 #[.slice ad toks.length cap,.int .i64 ((p:Int)+1)] w' fun e w2=>e=.returned (.int .i64 (ik toks (p+1):Nat))/\w2=w'):=aa fun w' h=>by have:=jx ad cap toks hl (p+1) w' h;rwa[Int.natCast_succ]at this
 have hB0:=(aw w.heap.size w).alloc ac (ie (.slice none 0 0) 0 false);have HT0:=aa (hT.below hB0);have HT00:=aa hT;obtain⟨b,o,pa,pc,rfl,hb,-,-,-,c3,hrow⟩:=hT.at htj;have hB1:=hB0.alloc (by simp) (.cells #[.slice pa t.els.length pc,.int .i64 0] 52);have hR1:=(At.new w (ie (.slice none 0 0) 0 false)).alloc (.cells #[.slice pa t.els.length pc,.int .i64 0] 52);have hL1:=At.new (w.alloc (ie (.slice none 0 0) 0 false)) (.cells #[.slice pa t.els.length pc,.int .i64 0] 52);rw[bg]at hL1;have c3':=(hB0.cell (p:=⟨b,o+p*4+3,none⟩) hb).trans c3;have hsz:((w.alloc (ie (.slice none 0 0) 0 false)).alloc (.cells #[.slice pa t.els.length pc,.int .i64 0] 52)).heap.size=w.heap.size+2:=by simp
 have HSZ:=aa hsz;have HB1:=aa hB1;have HR1:=aa hR1;have HL1:=aa hL1;have HT1:=aa (hT.below hB1);have HRow:=aa (hrow.keep (Kt.below hB1));have hpi:(p:Int)<=1000:=by omega
 have hpl2:(p:Int)<toks.length:=by omega
 have hdr':=aa hdr;have htk':=aa htk;clear hT hB0 htj hdr htk hk c3 hrow hB1 hR1 hL1 hsz;go_enter func100,ntmps100;go_wp2_with(first|(go_at_call 55;(with_reducible refine(q1.out _ HT0.out).mono ?_);rintro e w1⟨rfl,rfl⟩))
 generalize ((w.alloc (ie (.slice none 0 0) 0 false)).alloc (.cells #[.slice pa t.els.length pc,.int .i64 0] 52))=W1 at *;have c0:=HR1.out.cell 0;have c1:=HR1.out.cell 1;have c2:=HR1.out.cell 2;have f0:=HR1.out.free 0;have f1:=HR1.out.free 1;have f2:=HR1.out.free 2;have rl:=HR1.out.lt;have l0:=HL1.out.cell 0;have l1:=HL1.out.cell 1;have g1:=HL1.out.free 1;have ll:=HL1.out.lt;simp only[ak,am,au]at c0 c1 c2 l0 l1;have hk2:=aa (q2.out W1 HT1.out);by_cases h7:ik toks (p+1)=7
 ·obtain⟨u,huj,huk,hul,hud⟩:=jz h7 (by decide)
  obtain⟨b',o',pa',pc',hb',hbl,-,-,u2,-,-⟩:=HT1.out.at huj;cases hb';rw[h7]at hk2;have hpl3:(p:Int)+1<toks.length:=by omega
  have hpp:(0:Int)<=(p:Int)+1:=by omega
  have htn:((p:Int)+1).toNat=p+1:=by omega
  have hud':=aa hud;have huk':=aa huk;have hul':=aa hul;clear huj huk hud h7 hul;by_cases hbig:(64:Int)<u.num
  ·go_wp2_with(go_at_call 55;(with_reducible refine hk2.out.mono ?_);rintro e w1⟨rfl,rfl⟩)
   refine ay (v:=.agg #[.slice none 0 0,.int .i64 ((p+1:Nat):Int),.bool true]) (by simp[results,results100,go_sem, *]) rfl ?_;exact n7 (base:=w.heap.size+1) (ns:=[]) HR1.out ac (Nat.lt_succ_self _) (by simp) (by omega) (bj _ _ _ _) .nil HB1.out (fun h=>by cases h)
  ·go_wp2_with(go_at_call 55;(with_reducible refine hk2.out.mono ?_);rintro e w1⟨rfl,rfl⟩)
   have hE:=((((Ex.refl [w.heap.size+1,w.heap.size] w1).set (w.heap.size+1) 1 (.int .i64 u.num) (by simp)).set w.heap.size 0 (.slice (some ⟨w1.heap.size,0,none⟩) 1 1) (by simp)).set w.heap.size 1 (.int .i64 ((p:Int)+1+1)) (by simp)).set w.heap.size 2 (.bool false) (by simp);have hR:=((((HR1.out.far (p:=⟨w.heap.size+1,1,none⟩) (Nat.succ_ne_self _) (.int .i64 u.num)).set 0 (.slice (some ⟨w1.heap.size,0,none⟩) 1 1)).set 1 (.int .i64 ((p:Int)+1+1))).set 2 (.bool false)).alloc (fw 1 0 (.slice pa t.els.length pc) u.num);have hO:=World.ownsRow_lit (base:=w.heap.size) (e:=81) (size:=4) ((((w1.setCell ⟨w.heap.size+1,1,none⟩ (.int .i64 u.num)).setCell ⟨w.heap.size,0,none⟩ (.slice (some ⟨w1.heap.size,0,none⟩) 1 1)).setCell ⟨w.heap.size,1,none⟩ (.int .i64 ((p:Int)+1+1))).setCell ⟨w.heap.size,2,none⟩ (.bool false)) #[.int .i64 1,.int .i64 0,.slice pa t.els.length pc,.int .i64 u.num] 1 (by simp;omega) (by unfold maxLen;omega) rfl;have hK:=(Kt.at2 (ty:=100) hE HL1.out HR1.out).alloc (fw 1 0 (.slice pa t.els.length pc) u.num);have hB:=(HB1.out.trans (hE.below HB1.out.size (by simp))).alloc (by simp;omega) (fw 1 0 (.slice pa t.els.length pc) u.num);generalize hS:((((w1.setCell ⟨w.heap.size+1,1,none⟩ (.int .i64 u.num)).setCell ⟨w.heap.size,0,none⟩ (.slice (some ⟨w1.heap.size,0,none⟩) 1 1)).setCell ⟨w.heap.size,1,none⟩ (.int .i64 ((p:Int)+1+1))).setCell ⟨w.heap.size,2,none⟩ (.bool false))=S at *;have hSz:S.heap.size=w1.heap.size:=by rw[<-hS];simp
   rw[hSz]at hO;simp only[ag,ai,aj]at hR;have e0:=hR.cell 0;have e1:=hR.cell 1;have e2:=hR.cell 2;have el:=hR.lt;simp only[ak,am,au]at e0 e1 e2;clear hS hE hR;generalize S.alloc (fw 1 0 (.slice pa t.els.length pc) u.num)=wf at *;refine ay (v:=.agg #[.slice (some ⟨w1.heap.size,0,none⟩) 1 1,.int .i64 ((p:Int)+1+1),.bool false]) (by simp[results,results100,go_sem,e0,e1,e2]) rfl ?_;have hnx:((p+2:Nat):Int)=(p:Int)+1+1:=by omega
   exact⟨_,[⟨1,0,t.els,u.num⟩],_,p+2,false,by rw[hnx],by simp;omega,by omega,hO,f9.one (aa5 _ pa pc t.els u.num (HRow.out.keep hK)),hB,fun _=>⟨.find t.els u.num,rfl,by rw[hdr'.out,hud'.out];exact .fuzz t u _ htk'.out huk'.out (by omega)⟩⟩
 ·obtain⟨K,hK⟩:∃K,K=ik toks (p+1):=⟨_,rfl⟩
  rw[<-hK]at hk2;have hK7:((K:Int)==7)=false:=by rw[ax];omega
  have h7':=aa h7;clear hK h7;go_wp2_with(go_at_call 55;(with_reducible refine hk2.out.mono ?_);rintro e w1⟨rfl,rfl⟩)
  have hE:=(((Ex.refl [w.heap.size+1,w.heap.size] w1).set w.heap.size 0 (.slice (some ⟨w1.heap.size,0,none⟩) 1 1) (by simp)).set w.heap.size 1 (.int .i64 ((p:Int)+1)) (by simp)).set w.heap.size 2 (.bool false) (by simp);have hR:=(((HR1.out.set 0 (.slice (some ⟨w1.heap.size,0,none⟩) 1 1)).set 1 (.int .i64 ((p:Int)+1))).set 2 (.bool false)).alloc (fw 1 0 (.slice pa t.els.length pc) 0);have hO:=World.ownsRow_lit (base:=w.heap.size) (e:=81) (size:=4) (((w1.setCell ⟨w.heap.size,0,none⟩ (.slice (some ⟨w1.heap.size,0,none⟩) 1 1)).setCell ⟨w.heap.size,1,none⟩ (.int .i64 ((p:Int)+1))).setCell ⟨w.heap.size,2,none⟩ (.bool false)) #[.int .i64 1,.int .i64 0,.slice pa t.els.length pc,.int .i64 0] 1 (by simp;omega) (by unfold maxLen;omega) rfl;have hK:=(Kt.at2 (ty:=100) hE HL1.out HR1.out).alloc (fw 1 0 (.slice pa t.els.length pc) 0);have hB:=(HB1.out.trans (hE.below HB1.out.size (by simp))).alloc (by simp;omega) (fw 1 0 (.slice pa t.els.length pc) 0);generalize hS:(((w1.setCell ⟨w.heap.size,0,none⟩ (.slice (some ⟨w1.heap.size,0,none⟩) 1 1)).setCell ⟨w.heap.size,1,none⟩ (.int .i64 ((p:Int)+1))).setCell ⟨w.heap.size,2,none⟩ (.bool false))=S at *;have hSz:S.heap.size=w1.heap.size:=by rw[<-hS];simp
  rw[hSz]at hO;simp only[ag,ai,aj]at hR;have e0:=hR.cell 0;have e1:=hR.cell 1;have e2:=hR.cell 2;have el:=hR.lt;simp only[ak,am,au]at e0 e1 e2;clear hS hE hR;generalize S.alloc (fw 1 0 (.slice pa t.els.length pc) 0)=wf at *;refine ay (v:=.agg #[.slice (some ⟨w1.heap.size,0,none⟩) 1 1,.int .i64 ((p:Int)+1),.bool false]) (by simp[results,results100,go_sem,e0,e1,e2]) rfl ?_;have hnx:((p+1:Nat):Int)=(p:Int)+1:=by omega
  exact⟨_,[⟨1,0,t.els,0⟩],_,p+1,false,by rw[hnx],by simp;omega,by omega,hO,f9.one (aa5 _ pa pc t.els 0 (HRow.out.keep hK)),hB,fun _=>⟨.find t.els 0,rfl,by rw[hdr'.out];exact .find t _ htk'.out (vz h7'.out)⟩⟩
end
section
set_option maxRecDepth 100000
set_option maxHeartbeats 4000000
open Go.RowKit Go.Shelf
theorem qk{w w':World}{base:Nat}{e:TypeId}{size n:Nat}{S:List Nat}{v:Value}{xs:List Value}(h:w.ownsRow base e size v n xs)(hb:Ex S w w')(hC:∀x∈S,x<base\/w.heap.size<=x):w'.ownsRow base e size v n xs:=by
 refine⟨h.1,?_⟩;rcases h.2 with h2|⟨g,cap,cur,hv,hbb,hg,r⟩
 ·exact .inl h2
 ·refine .inr ⟨g,cap,cur,hv,hbb,?_,r⟩
  have hlt:=(df.1 hg).1;rw[hb.block g hlt (fun hx=>by have:=hC g hx;omega)];exact hg
theorem Kt.atF{ty t:TypeId}{C D:Nat}{cs:Array Value}{fz:Nat×Nat}{w w':World}(h:Ex [C,D] w w')(hC:At w C (.cells cs t fz))(hD:w.heap.size<=D)(hne:t≠ty:=by decide):Kt ty w w':=
 .ex h fun x hx cur fz2 e=>by
  rcases cz.1 hx with rfl|hx
  ·rw[show w.heap[x]?=some (.cells cs t fz)from hC]at e
   injection e with e;injection e with e1 e2;exact hne e2
  ·rw[cd.1 hx,Array.getElem?_eq_none hD]at e
   cases e
theorem apw(ad:Option Addr)(cap:Nat)(toks:List gq)(hl:toks.length<=1000)(p:Nat)(hk:ik toks p=1)
 (ih:∀w,il w 71 ad toks->Calls prog 24 #[.slice ad toks.length cap,.int .i64 ((p+1:Nat):Int)] w (oj w .query toks (p+1))) (w:World) (hT:il w 71 ad toks):
 Calls prog 100 #[.slice ad toks.length cap,.int .i64 (p:Nat)] w (oj w .item toks p):=by
 obtain⟨t,htj,htk,hpl,hdr⟩:=jz hk (by decide);have q1:=aa fun w' h=>jx ad cap toks hl p w' h
 rw[hk]at q1;have q2:Hid (∀w,il w 71 ad toks->Calls prog 24 #[.slice ad toks.length cap,.int .i64 ((p:Int)+1)] w (oj w .query toks (p+1))):=aa fun w h=>by have:=ih w h;rwa[Int.natCast_succ]at this
 have q3:=aa fun j w' h=>jx ad cap toks hl j w' h
 have HR0:=aa (At.new w (ie (.slice none 0 0) 0 false));have hB0:=(aw w.heap.size w).alloc ac (ie (.slice none 0 0) 0 false);have HT0:=aa (hT.below hB0);have HB0:=aa hB0;have HSZ:=aa (show(w.alloc (ie (.slice none 0 0) 0 false)).heap.size=w.heap.size+1 by simp);have hpi:(p:Int)<=1000:=by omega
 have hdr':=aa hdr;have htk':=aa htk;clear hT hB0 htj hdr htk hk;go_enter func100,ntmps100;go_wp2_with(first|(go_at_call 55;(with_reducible refine(q1.out _ HT0.out).mono ?_);rintro e w1⟨rfl,rfl⟩))
 go_at_call 24;refine(q2.out _ HT0.out).mono ?_;rintro e w2⟨r2,ns2,vs2,nx2,bad2,rfl,hn2,hx2,ho2,hv2,hb2,ht2⟩;obtain⟨a2,c2,rfl⟩:=ey ho2;have HN2:=aa hn2;have HX2:=aa hx2;have HO2:=aa ho2;have HV2:=aa hv2;have HT2:=aa ht2;have HB2:=aa (HB0.out.trans (hb2.mono HB0.out.size));have HR2:=aa (HR0.out.below hb2 HR0.out.lt);have HTk2:=aa (HT0.out.below hb2);have hnx:(nx2:Int)<=1000:=by omega
 clear hn2 hx2 ho2 hv2 ht2 hb2;have HR3:=aa (HR2.out.alloc (ie (.slice a2 ns2.length c2) nx2 bad2));have HG3:=aa (At.new w2 (ie (.slice a2 ns2.length c2) nx2 bad2));have hb3:=(aw w2.heap.size w2).alloc ac (ie (.slice a2 ns2.length c2) nx2 bad2);have HB3:=aa (HB2.out.trans (hb3.mono HB2.out.size));have HTk3:=aa (HTk2.out.below hb3);have HE3:Hid (Ex [w.heap.size,w2.heap.size] w2 (w2.alloc (ie (.slice a2 ns2.length c2) nx2 bad2))):=aa ((Ex.refl _ _).alloc _);have HK3:Hid (Kt 100 w2 (w2.alloc (ie (.slice a2 ns2.length c2) nx2 bad2))):=aa ((Kt.refl _ _).alloc _);have HW:Hid (w.heap.size<w2.heap.size):=aa HR2.out.lt;clear hb3;cases bad2
 ·have hh:=aa (q3.out nx2 _ HTk3.out)
  go_upto_region 17 with fail
  generalize w2.alloc (ie (.slice a2 ns2.length c2) nx2 false)=W3 at *;have c0:=HR3.out.cell 0;have c1:=HR3.out.cell 1;have c2':=HR3.out.cell 2;have f0:=HR3.out.free 0;have f1:=HR3.out.free 1;have f2:=HR3.out.free 2;have rl:=HR3.out.lt;have g0:=HG3.out.cell 0;have g1:=HG3.out.cell 1;have g2:=HG3.out.cell 2;have y1:=HG3.out.free 1;have gl:=HG3.out.lt;simp only[ak,am,au]at c0 c1 c2' g0 g1 g2;have hne:w.heap.size≠w2.heap.size:=by have:=HW.out;omega
  have hne2:w2.heap.size≠w.heap.size:=fun h=>hne h.symm
  have HBs:=aa HB2.out.size;generalize hG:w2.heap.size=G at *;have HG:=aa hG;clear hG;by_cases h2:ik toks nx2=2
  ·obtain⟨u,huj,huk,hul,hud⟩:=jz h2 (by decide)
   rw[h2]at hh;have hud':=aa hud;have huk':=aa huk;have hul':=aa hul;clear huj huk hud h2 hul;go_wp2_with(go_at_call 55;(with_reducible refine hh.out.mono ?_);rintro e w4⟨rfl,rfl⟩)
   refine ay (v:=.agg #[.slice a2 ns2.length c2,.int .i64 ((nx2:Int)+1),.bool false]) (by simp[results,results100,go_sem, *]) rfl ?_;have hE:=(((HE3.out.set G 1 (.int .i64 ((nx2:Int)+1)) (by simp)).set w.heap.size 0 (.slice a2 ns2.length c2) (by simp)).set w.heap.size 1 (.int .i64 ((nx2:Int)+1)) (by simp)).set w.heap.size 2 (.bool false) (by simp);have hnx':((nx2+1:Nat):Int)=(nx2:Int)+1:=by omega
   refine⟨_,ns2,vs2,nx2+1,false,by rw[hnx'],by have:=HN2.out;omega,hul'.out,fx (qk HO2.out hE (by have:=HSZ.out;have:=HG.out;simp;omega)) (by have:=HSZ.out;omega),gw HV2.out (Kt.atF hE HR2.out (by have:=HG.out;omega)),HB2.out.trans (hE.below HB2.out.size (by have:=HBs.out;simp;omega)),fun _=>?_⟩;obtain⟨T,hT,hP⟩:=HT2.out trivial;rw[hud'.out]at hP;exact⟨T,hT,by rw[hdr'.out];exact .brack t _ T u _ htk'.out hP huk'.out⟩
  ·obtain⟨K,hK⟩:∃K,K=ik toks nx2:=⟨_,rfl⟩
   rw[<-hK]at hh h2;have hK2:((K:Int) !=2)=true:=by rw[bne_iff_ne];omega
   clear hK h2;go_wp2_with(go_at_call 55;(with_reducible refine hh.out.mono ?_);rintro e w4⟨rfl,rfl⟩)
   refine ay (v:=.agg #[.slice none 0 0,.int .i64 (nx2:Nat),.bool true]) (by simp[results,results100,go_sem, *]) rfl ?_;have hE:=((HE3.out.set w.heap.size 0 (.slice none 0 0) (by simp)).set w.heap.size 1 (.int .i64 (nx2:Nat)) (by simp)).set w.heap.size 2 (.bool true) (by simp);exact⟨_,[],[],nx2,true,rfl,by have:=HN2.out;simp;omega,HX2.out,bj _ _ _ _,.nil,HB2.out.trans (hE.below HB2.out.size (by have:=HBs.out;simp;omega)),fun h=>by cases h⟩
 ·go_upto_region 17 with fail
  generalize w2.alloc (ie (.slice a2 ns2.length c2) nx2 true)=W3 at *;have c0:=HR3.out.cell 0;have c1:=HR3.out.cell 1;have c2':=HR3.out.cell 2;have f0:=HR3.out.free 0;have f1:=HR3.out.free 1;have f2:=HR3.out.free 2;have rl:=HR3.out.lt;have g0:=HG3.out.cell 0;have g1:=HG3.out.cell 1;have g2:=HG3.out.cell 2;have gl:=HG3.out.lt;simp only[ak,am,au]at c0 c1 c2' g0 g1 g2;go_wp2_with fail
  refine ay (v:=.agg #[.slice a2 ns2.length c2,.int .i64 (nx2:Nat),.bool true]) (by simp[results,results100,go_sem, *]) rfl ?_;have hE:=((HE3.out.set w.heap.size 0 (.slice a2 ns2.length c2) (by simp)).set w.heap.size 1 (.int .i64 (nx2:Nat)) (by simp)).set w.heap.size 2 (.bool true) (by simp);refine⟨_,ns2,vs2,nx2,true,rfl,by have:=HN2.out;omega,HX2.out,fx (qk HO2.out hE (by have:=HSZ.out;simp)) (by have:=HSZ.out;omega),?_,HB2.out.trans (hE.below HB2.out.size (by have:=HB2.out.size;simp;omega)),fun h=>by cases h⟩;exact gw HV2.out (Kt.atF hE HR2.out ac)
theorem aar(ad:Option Addr)(cap:Nat)(toks:List gq)(hl:toks.length<=1000)(p:Nat)(hp:p<=toks.length)
 (ih1:p+1<=toks.length->∀w,il w 71 ad toks->Calls prog 100 #[.slice ad toks.length cap,.int .i64 ((p+1:Nat):Int)] w (oj w .item toks (p+1)))
 (ih2:p+1<=toks.length->∀w,il w 71 ad toks->Calls prog 24 #[.slice ad toks.length cap,.int .i64 ((p+1:Nat):Int)] w (oj w .query toks (p+1))) (w:World) (hT:il w 71 ad toks):
 Calls prog 100 #[.slice ad toks.length cap,.int .i64 (p:Nat)] w (oj w .item toks p):=by
 have hk:∀k,ik toks p=k->k≠0->p+1<=toks.length:=fun k h h0=>by obtain⟨t,_,_,h,_⟩:=jz h h0;omega
 by_cases h5:ik toks p=5
 ·exact apv ad cap toks hl p h5 (ih1 (hk 5 h5 (by decide))) w hT
 by_cases h6:ik toks p=6
 ·exact apu ad cap toks hl p h6 (ih1 (hk 6 h6 (by decide))) w hT
 by_cases h8:ik toks p=8
 ·exact apt ad cap toks hl p h8 w hT
 by_cases h1:ik toks p=1
 ·exact apw ad cap toks hl p h1 (ih2 (hk 1 h1 (by decide))) w hT
 exact aps ad cap toks hl p hp h1 h5 h6 h8 w hT
end
end Go.Proofs.YtjfkmoinldlmaaaGreat
