/- The walk of BeagleFails, part 38. Walks of the reference lexer's element and kind. Walks of the reference lexer's kind and number. Walk of the reference lexer's pattern. Walk of the reference lexer's one at a pattern. Walk of the reference lexer's one. -/
import Derived.Test.YtjfkmoinldlmaaaGreatFa37
namespace Go.Proofs.YtjfkmoinldlmaaaGreat
open Go.Proofs.Tryz
section
set_option maxRecDepth 100000
set_option maxHeartbeats 4000000
open Go.RowKit Go.Shelf
def GBadC(v:Value):Prop:=∃(b x0 x1 x2 x3:Nat)(nx e:Int),v=gv b x0 x1 x2 x3 (.slice none 0 0) 0 nx e/\e≠0
def GotE(s:ByteArray)(p:Nat)(v:Value):Prop:=
 GBadC v\/∃(b:Nat)(S:Nat->Bool)(q:Nat),ElR s p S q/\v=gv b (wd S 0) (wd S 1) (wd S 2) (wd S 3) (.slice none 0 0) 0 (q:Nat) 0
theorem amb(s:ByteArray)(p:Nat)(hs:s.size<=1000)(hp:p<s.size)(w:World):
 Calls prog 152 #[.string s,.int .i64 (p:Nat)] w fun e w'=>∃v,e=.returned v/\Below w.heap.size w w'/\GotE s p v:=by
 have hsi:(s.size:Int)<=1000:=by omega
 have hpi:(p:Int)<s.size:=by omega
 have hb:s[p].toNat=tb s p:=ia s p hp;have hle:=jq s p;have HA:=aa (At.new w (j7 0 0 0 0 0 (.slice none 0 0) 0 0 0));have HB:=aa ((aw w.heap.size w).alloc ac (j7 0 0 0 0 0 (.slice none 0 0) 0 0 0));go_enter func152,ntmps152;by_cases h63:tb s p=63
 ·have g:((tb s p:Int)==63)=true:=by rw[h63];rfl
  have H63:=aa h63;clear h63;have hf:=aa fun w=>al8 w
  go_wp2_with(go_at_call 199;refine(hf.out _).mono ?_;rintro e w1⟨rfl,hb1⟩;have HA1:=aa (HA.out.below hb1 HA.out.lt);have HB1:=aa (HB.out.trans (hb1.mono HB.out.size));obtain⟨⟨c0,c1,c2,c3,c4,c5,c6,c7,c8⟩,⟨f0,f1,f2,f3,f4,f5,f6,f7,f8⟩,hl⟩:=HA1.out.nine;clear hb1)
  exact ay (v:=gv 0 (wd (fun _=>true) 0) (wd (fun _=>true) 1) (wd (fun _=>true) 2) (wd (fun _=>true) 3) (.slice none 0 0) 0 ((p+1:Nat):Int) 0) (by simp[results,results152,go_sem,c0,c1,c2,c3,c4,c5,c6,c7,c8]) rfl ⟨_,rfl,fg HB1.out ac ..,.inr ⟨0,iz,p+1,.any H63.out,rfl⟩⟩
 ·have g:((tb s p:Int)==63)=false:=by rw[ax];omega
  have H63:=aa h63;clear h63;by_cases h91:tb s p=91
  ·have g2:((tb s p:Int)==91)=true:=by rw[h91];rfl
   have H91:=aa h91;clear h91;have hc:=aa fun w=>ahu s p hs hp w
   go_wp2_with fail
   go_at_call 200;refine(hc.out _).mono ?_;rintro e w1⟨v,rfl,hb1,hg⟩;have HA1:=aa (HA.out.below hb1 HA.out.lt);have HB1:=aa (HB.out.trans (hb1.mono HB.out.size));obtain⟨⟨c0,c1,c2,c3,c4,c5,c6,c7,c8⟩,⟨f0,f1,f2,f3,f4,f5,f6,f7,f8⟩,hl⟩:=HA1.out.nine;clear hb1;obtain⟨nx,e,rfl,hne⟩|⟨S,q,hS,rfl⟩:=hg
   ·go_wp2_with fail
    exact ay (v:=gv 0 0 0 0 0 (.slice none 0 0) 0 nx e) (by simp[results,results152,go_sem,c0,c1,c2,c3,c4,c5,c6,c7,c8]) rfl ⟨_,rfl,fg HB1.out ac ..,.inl ⟨0,0,0,0,0,nx,e,rfl,hne⟩⟩
   ·go_wp2_with fail
    exact ay (v:=gv 0 (wd S 0) (wd S 1) (wd S 2) (wd S 3) (.slice none 0 0) 0 (q:Nat) 0) (by simp[results,results152,go_sem,c0,c1,c2,c3,c4,c5,c6,c7,c8]) rfl ⟨_,rfl,fg HB1.out ac ..,.inr ⟨0,S,q,.cls S q H91.out hS,rfl⟩⟩
  ·have g2:((tb s p:Int)==91)=false:=by rw[ax];omega
   have H91:=aa h91;clear h91;have Hp:=aa hp;by_cases h92:tb s p=92
   ·have g3:((tb s p:Int)==92)=true:=by rw[h92];rfl
    have H92:=aa h92;clear h92;have hesc:=aa fun w=>yt s p hs hp w
    have H3:pz [] s p=sh s p:=by unfold pz;rw[if_pos H92.out]
    have HO:=aa H3;clear H3;obtain⟨bb,hbb⟩:∃bb,bb=tb s p:=⟨_,rfl⟩;rw[<-hbb]at hb hle g g2 g3;have HBB:=aa hbb;clear hbb;have hT2:At ((w.alloc (j7 0 0 0 0 0 (.slice none 0 0) 0 0 0)).alloc (gbO bb ((p:Int)+1))) (w.heap.size+1) (j7 bb 0 0 0 0 (.slice none 0 0) 0 ((p:Int)+1) 0):=by
     have h:=At.new (w.alloc (j7 0 0 0 0 0 (.slice none 0 0) 0 0 0)) (gbO bb ((p:Int)+1));rw[bg]at h;exact h
    have HT2:=aa hT2;have HG2:=aa (HA.out.alloc (gbO bb ((p:Int)+1)));have HB2:=aa (HB.out.alloc (by simp) (gbO bb ((p:Int)+1)));clear hT2;go_wp2_with fail
    go_at_call 201;refine(hesc.out _).mono ?_;rintro e w3⟨v,rfl,hb3,hg⟩;have HG3:=aa (HG2.out.below hb3 HG2.out.lt);have HT3:=aa (HT2.out.below hb3 HT2.out.lt);have HB3:=aa (HB2.out.trans (hb3.mono HB2.out.size));clear hb3;obtain⟨⟨t0,t1,t2,t3,t4,t5,t6,t7,t8⟩,⟨y0,y1,y2,y3,y4,y5,y6,y7,y8⟩,tl⟩:=HT3.out.nine;obtain⟨nx,e,rfl,hne⟩|⟨b,q,hE,rfl⟩:=hg
    ·go_upto_region 10 with fail
     have HT:=aa (show At (((((((((w3.setCell ⟨(w.heap.size+1),0,none⟩ (.int .u8 0)).setCell ⟨(w.heap.size+1),1,none⟩ (.int .u64 0)).setCell ⟨(w.heap.size+1),2,none⟩ (.int .u64 0)).setCell ⟨(w.heap.size+1),3,none⟩ (.int .u64 0)).setCell ⟨(w.heap.size+1),4,none⟩ (.int .u64 0)).setCell ⟨(w.heap.size+1),5,none⟩ (.slice none 0 0)).setCell ⟨(w.heap.size+1),6,none⟩ (.int .i64 0)).setCell ⟨(w.heap.size+1),7,none⟩ (.int .i64 nx)).setCell ⟨(w.heap.size+1),8,none⟩ (.int .i64 e)) (w.heap.size+1) (j7 0 0 0 0 0 (.slice none 0 0) 0 nx e)from HT3.out.put9 0 0 0 0 0 (.slice none 0 0) 0 nx e);have HG:=aa (show At (((((((((w3.setCell ⟨(w.heap.size+1),0,none⟩ (.int .u8 0)).setCell ⟨(w.heap.size+1),1,none⟩ (.int .u64 0)).setCell ⟨(w.heap.size+1),2,none⟩ (.int .u64 0)).setCell ⟨(w.heap.size+1),3,none⟩ (.int .u64 0)).setCell ⟨(w.heap.size+1),4,none⟩ (.int .u64 0)).setCell ⟨(w.heap.size+1),5,none⟩ (.slice none 0 0)).setCell ⟨(w.heap.size+1),6,none⟩ (.int .i64 0)).setCell ⟨(w.heap.size+1),7,none⟩ (.int .i64 nx)).setCell ⟨(w.heap.size+1),8,none⟩ (.int .i64 e)) w.heap.size (j7 0 0 0 0 0 (.slice none 0 0) 0 0 0)from HG3.out.puts (by omega) _ _ _ _ _ _ _ _ _);have HBx:=aa (show Below w.heap.size w (((((((((w3.setCell ⟨(w.heap.size+1),0,none⟩ (.int .u8 0)).setCell ⟨(w.heap.size+1),1,none⟩ (.int .u64 0)).setCell ⟨(w.heap.size+1),2,none⟩ (.int .u64 0)).setCell ⟨(w.heap.size+1),3,none⟩ (.int .u64 0)).setCell ⟨(w.heap.size+1),4,none⟩ (.int .u64 0)).setCell ⟨(w.heap.size+1),5,none⟩ (.slice none 0 0)).setCell ⟨(w.heap.size+1),6,none⟩ (.int .i64 0)).setCell ⟨(w.heap.size+1),7,none⟩ (.int .i64 nx)).setCell ⟨(w.heap.size+1),8,none⟩ (.int .i64 e))from fg HB3.out (by omega) 0 0 0 0 0 (.slice none 0 0) 0 nx e);clear t0 t1 t2 t3 t4 t5 t6 t7 t8 y0 y1 y2 y3 y4 y5 y6 y7 y8 tl;generalize (((((((((w3.setCell ⟨(w.heap.size+1),0,none⟩ (.int .u8 0)).setCell ⟨(w.heap.size+1),1,none⟩ (.int .u64 0)).setCell ⟨(w.heap.size+1),2,none⟩ (.int .u64 0)).setCell ⟨(w.heap.size+1),3,none⟩ (.int .u64 0)).setCell ⟨(w.heap.size+1),4,none⟩ (.int .u64 0)).setCell ⟨(w.heap.size+1),5,none⟩ (.slice none 0 0)).setCell ⟨(w.heap.size+1),6,none⟩ (.int .i64 0)).setCell ⟨(w.heap.size+1),7,none⟩ (.int .i64 nx)).setCell ⟨(w.heap.size+1),8,none⟩ (.int .i64 e))=W4 at *;have t0:=HT.out.nine.1.1;have tl:=HT.out.nine.2.2;have hrg:=aa (fun w:World=>show Calls prog 203 #[.int .u8 (0:Nat),.int .u8 (0:Nat)] w (fun e w'=>e=.returned (cv (ez 0 0))/\Below w.heap.size w w')from m8 (0:Nat) (0:Nat) (by omega) (by omega) (by omega) (by omega) w);go_wp2_with(go_at_call 203;refine(hrg.out _).mono ?_;rintro e9 w9⟨rfl,hb9⟩;have HG9:=aa (HG.out.below hb9 HG.out.lt);have HT9:=aa (HT.out.below hb9 HT.out.lt);have HB9:=aa (HBx.out.trans (hb9.mono HBx.out.size));clear t0 tl hb9;obtain⟨⟨c0,c1,c2,c3,c4,c5,c6,c7,c8⟩,⟨f0,f1,f2,f3,f4,f5,f6,f7,f8⟩,hl⟩:=HG9.out.nine;obtain⟨⟨t0,t1,t2,t3,t4,t5,t6,t7,t8⟩,⟨y0,y1,y2,y3,y4,y5,y6,y7,y8⟩,tl⟩:=HT9.out.nine)
     exact ay (v:=gv 0 (wd (ez 0 0) 0) (wd (ez 0 0) 1) (wd (ez 0 0) 2) (wd (ez 0 0) 3) (.slice none 0 0) 0 (nx) (e)) (by simp[results,results152,go_sem,c0,c1,c2,c3,c4,c5,c6,c7,c8]) rfl ⟨_,rfl,fg ((((HB9.out.setCell (dt _) _).setCell (dt _) _).setCell (dt _) _).setCell (dt _) _) ac ..,.inl ⟨0,_,_,_,_,nx,e,rfl,hne⟩⟩
    ·have hlt:=akq hE
     have HE:=aa hE;clear hE;go_upto_region 10 with fail
     have HT:=aa (show At (((((((((w3.setCell ⟨(w.heap.size+1),0,none⟩ (.int .u8 (b:Nat))).setCell ⟨(w.heap.size+1),1,none⟩ (.int .u64 0)).setCell ⟨(w.heap.size+1),2,none⟩ (.int .u64 0)).setCell ⟨(w.heap.size+1),3,none⟩ (.int .u64 0)).setCell ⟨(w.heap.size+1),4,none⟩ (.int .u64 0)).setCell ⟨(w.heap.size+1),5,none⟩ (.slice none 0 0)).setCell ⟨(w.heap.size+1),6,none⟩ (.int .i64 0)).setCell ⟨(w.heap.size+1),7,none⟩ (.int .i64 (q:Nat))).setCell ⟨(w.heap.size+1),8,none⟩ (.int .i64 0)) (w.heap.size+1) (j7 b 0 0 0 0 (.slice none 0 0) 0 (q:Nat) 0)from HT3.out.put9 b 0 0 0 0 (.slice none 0 0) 0 (q:Nat) 0);have HG:=aa (show At (((((((((w3.setCell ⟨(w.heap.size+1),0,none⟩ (.int .u8 (b:Nat))).setCell ⟨(w.heap.size+1),1,none⟩ (.int .u64 0)).setCell ⟨(w.heap.size+1),2,none⟩ (.int .u64 0)).setCell ⟨(w.heap.size+1),3,none⟩ (.int .u64 0)).setCell ⟨(w.heap.size+1),4,none⟩ (.int .u64 0)).setCell ⟨(w.heap.size+1),5,none⟩ (.slice none 0 0)).setCell ⟨(w.heap.size+1),6,none⟩ (.int .i64 0)).setCell ⟨(w.heap.size+1),7,none⟩ (.int .i64 (q:Nat))).setCell ⟨(w.heap.size+1),8,none⟩ (.int .i64 0)) w.heap.size (j7 0 0 0 0 0 (.slice none 0 0) 0 0 0)from HG3.out.puts (by omega) _ _ _ _ _ _ _ _ _);have HBx:=aa (show Below w.heap.size w (((((((((w3.setCell ⟨(w.heap.size+1),0,none⟩ (.int .u8 (b:Nat))).setCell ⟨(w.heap.size+1),1,none⟩ (.int .u64 0)).setCell ⟨(w.heap.size+1),2,none⟩ (.int .u64 0)).setCell ⟨(w.heap.size+1),3,none⟩ (.int .u64 0)).setCell ⟨(w.heap.size+1),4,none⟩ (.int .u64 0)).setCell ⟨(w.heap.size+1),5,none⟩ (.slice none 0 0)).setCell ⟨(w.heap.size+1),6,none⟩ (.int .i64 0)).setCell ⟨(w.heap.size+1),7,none⟩ (.int .i64 (q:Nat))).setCell ⟨(w.heap.size+1),8,none⟩ (.int .i64 0))from fg HB3.out (by omega) b 0 0 0 0 (.slice none 0 0) 0 (q:Nat) 0);clear t0 t1 t2 t3 t4 t5 t6 t7 t8 y0 y1 y2 y3 y4 y5 y6 y7 y8 tl;generalize (((((((((w3.setCell ⟨(w.heap.size+1),0,none⟩ (.int .u8 (b:Nat))).setCell ⟨(w.heap.size+1),1,none⟩ (.int .u64 0)).setCell ⟨(w.heap.size+1),2,none⟩ (.int .u64 0)).setCell ⟨(w.heap.size+1),3,none⟩ (.int .u64 0)).setCell ⟨(w.heap.size+1),4,none⟩ (.int .u64 0)).setCell ⟨(w.heap.size+1),5,none⟩ (.slice none 0 0)).setCell ⟨(w.heap.size+1),6,none⟩ (.int .i64 0)).setCell ⟨(w.heap.size+1),7,none⟩ (.int .i64 (q:Nat))).setCell ⟨(w.heap.size+1),8,none⟩ (.int .i64 0))=W4 at *;have t0:=HT.out.nine.1.1;have tl:=HT.out.nine.2.2;have hrg:=aa (fun w:World=>show Calls prog 203 #[.int .u8 (b:Nat),.int .u8 (b:Nat)] w (fun e w'=>e=.returned (cv (ez b b))/\Below w.heap.size w w')from m8 (b:Nat) (b:Nat) (by omega) (by omega) (by omega) (by omega) w);go_wp2_with(go_at_call 203;refine(hrg.out _).mono ?_;rintro e9 w9⟨rfl,hb9⟩;have HG9:=aa (HG.out.below hb9 HG.out.lt);have HT9:=aa (HT.out.below hb9 HT.out.lt);have HB9:=aa (HBx.out.trans (hb9.mono HBx.out.size));clear t0 tl hb9;obtain⟨⟨c0,c1,c2,c3,c4,c5,c6,c7,c8⟩,⟨f0,f1,f2,f3,f4,f5,f6,f7,f8⟩,hl⟩:=HG9.out.nine;obtain⟨⟨t0,t1,t2,t3,t4,t5,t6,t7,t8⟩,⟨y0,y1,y2,y3,y4,y5,y6,y7,y8⟩,tl⟩:=HT9.out.nine)
     exact ay (v:=gv b (wd (ez b b) 0) (wd (ez b b) 1) (wd (ez b b) 2) (wd (ez b b) 3) (.slice none 0 0) 0 ((q:Nat)) (0)) (by simp[results,results152,go_sem,c0,c1,c2,c3,c4,c5,c6,c7,c8]) rfl ⟨_,rfl,fg ((((HB9.out.setCell (dt _) _).setCell (dt _) _).setCell (dt _) _).setCell (dt _) _) ac ..,.inr ⟨b,_,q,.byte b q H63.out H91.out (HO.out.trans HE.out),rfl⟩⟩
   ·have g3:((tb s p:Int)==92)=false:=by rw[ax];omega
    have H92:=aa h92;clear h92;have hsg:=aa fun w=>acg (tb s p) w
    have H3:pz [] s p=if mg (tb s p)=true/\zr [] (tb s p)=false then some (tb s p,p+1)else none:=by unfold pz;rw[if_neg H92.out]
    have HO:=aa H3;clear H3;cases hsb:mg (tb s p)with
    |true=>
     rw[hsb]at hsg;have hE:pz [] s p=some (tb s p,p+1):=by rw[HO.out,if_pos ⟨hsb,rfl⟩]
     have HE:=aa hE;clear hE hsb HO;obtain⟨bb,hbb⟩:∃bb,bb=tb s p:=⟨_,rfl⟩;rw[<-hbb]at hb hle g g2 g3 hsg;have HBB:=aa hbb;clear hbb;go_upto_region 10 with(go_at_call 202;refine(hsg.out _).mono ?_;rintro e w3⟨rfl,rfl⟩)
     have HT:=aa (show At ((w.alloc (j7 0 0 0 0 0 (.slice none 0 0) 0 0 0)).alloc (gbO bb ((p:Int)+1))) (w.heap.size+1) (j7 bb 0 0 0 0 (.slice none 0 0) 0 ((p:Int)+1) 0) by
      have h:=At.new (w.alloc (j7 0 0 0 0 0 (.slice none 0 0) 0 0 0)) (gbO bb ((p:Int)+1))
      rw[bg]at h
      exact h)
     have HG:=aa (HA.out.alloc (gbO bb ((p:Int)+1)));have HBx:=aa (HB.out.alloc (by simp) (gbO bb ((p:Int)+1)));generalize ((w.alloc (j7 0 0 0 0 0 (.slice none 0 0) 0 0 0)).alloc (gbO bb ((p:Int)+1)))=W4 at *;have t0:=HT.out.nine.1.1;have tl:=HT.out.nine.2.2;have hrg:=aa (fun w:World=>show Calls prog 203 #[.int .u8 (bb:Nat),.int .u8 (bb:Nat)] w (fun e w'=>e=.returned (cv (ez bb bb))/\Below w.heap.size w w')from m8 (bb:Nat) (bb:Nat) (by omega) (by omega) (by omega) (by omega) w);go_wp2_with(go_at_call 203;refine(hrg.out _).mono ?_;rintro e9 w9⟨rfl,hb9⟩;have HG9:=aa (HG.out.below hb9 HG.out.lt);have HT9:=aa (HT.out.below hb9 HT.out.lt);have HB9:=aa (HBx.out.trans (hb9.mono HBx.out.size));clear t0 tl hb9;obtain⟨⟨c0,c1,c2,c3,c4,c5,c6,c7,c8⟩,⟨f0,f1,f2,f3,f4,f5,f6,f7,f8⟩,hl⟩:=HG9.out.nine;obtain⟨⟨t0,t1,t2,t3,t4,t5,t6,t7,t8⟩,⟨y0,y1,y2,y3,y4,y5,y6,y7,y8⟩,tl⟩:=HT9.out.nine)
     exact ay (v:=gv bb (wd (ez bb bb) 0) (wd (ez bb bb) 1) (wd (ez bb bb) 2) (wd (ez bb bb) 3) (.slice none 0 0) 0 (((p+1:Nat):Int)) (0)) (by simp[results,results152,go_sem,c0,c1,c2,c3,c4,c5,c6,c7,c8]) rfl ⟨_,rfl,fg ((((HB9.out.setCell (dt _) _).setCell (dt _) _).setCell (dt _) _).setCell (dt _) _) ac ..,.inr ⟨bb,_,p+1,.byte bb (p+1) H63.out H91.out (by rw[HE.out,HBB.out]),rfl⟩⟩
    |false=>
     rw[hsb]at hsg;clear hsb HO;obtain⟨bb,hbb⟩:∃bb,bb=tb s p:=⟨_,rfl⟩;rw[<-hbb]at hb hle g g2 g3 hsg;have HBB:=aa hbb;clear hbb;go_upto_region 10 with(go_at_call 202;refine(hsg.out _).mono ?_;rintro e w3⟨rfl,rfl⟩)
     have HT:=aa (show At ((w.alloc (j7 0 0 0 0 0 (.slice none 0 0) 0 0 0)).alloc (yh (p:Int) 130)) (w.heap.size+1) (j7 0 0 0 0 0 (.slice none 0 0) 0 (p:Int) 130) by
      have h:=At.new (w.alloc (j7 0 0 0 0 0 (.slice none 0 0) 0 0 0)) (yh (p:Int) 130)
      rw[bg]at h
      exact h)
     have HG:=aa (HA.out.alloc (yh (p:Int) 130));have HBx:=aa (HB.out.alloc (by simp) (yh (p:Int) 130));generalize ((w.alloc (j7 0 0 0 0 0 (.slice none 0 0) 0 0 0)).alloc (yh (p:Int) 130))=W4 at *;have t0:=HT.out.nine.1.1;have tl:=HT.out.nine.2.2;have hrg:=aa (fun w:World=>show Calls prog 203 #[.int .u8 (0:Nat),.int .u8 (0:Nat)] w (fun e w'=>e=.returned (cv (ez 0 0))/\Below w.heap.size w w')from m8 (0:Nat) (0:Nat) (by omega) (by omega) (by omega) (by omega) w);go_wp2_with(go_at_call 203;refine(hrg.out _).mono ?_;rintro e9 w9⟨rfl,hb9⟩;have HG9:=aa (HG.out.below hb9 HG.out.lt);have HT9:=aa (HT.out.below hb9 HT.out.lt);have HB9:=aa (HBx.out.trans (hb9.mono HBx.out.size));clear t0 tl hb9;obtain⟨⟨c0,c1,c2,c3,c4,c5,c6,c7,c8⟩,⟨f0,f1,f2,f3,f4,f5,f6,f7,f8⟩,hl⟩:=HG9.out.nine;obtain⟨⟨t0,t1,t2,t3,t4,t5,t6,t7,t8⟩,⟨y0,y1,y2,y3,y4,y5,y6,y7,y8⟩,tl⟩:=HT9.out.nine)
     exact ay (v:=gv 0 (wd (ez 0 0) 0) (wd (ez 0 0) 1) (wd (ez 0 0) 2) (wd (ez 0 0) 3) (.slice none 0 0) 0 ((p:Int)) (130)) (by simp[results,results152,go_sem,c0,c1,c2,c3,c4,c5,c6,c7,c8]) rfl ⟨_,rfl,fg ((((HB9.out.setCell (dt _) _).setCell (dt _) _).setCell (dt _) _).setCell (dt _) _) ac ..,.inl ⟨0,_,_,_,_,p,130,rfl,by decide⟩⟩
end
section
set_option maxRecDepth 100000
set_option maxHeartbeats 8000000
open Go.RowKit Go.Shelf
theorem kind_at:∀k:Nat,k<7->j3 (tb ⟨#[40,41,38,124,33,62,126]⟩ k)=k+1:=by decide+kernel
theorem anb{b:Nat}(h:∀i,i<7->tb ⟨#[40,41,38,124,33,62,126]⟩ i≠b):j3 b=0:=by
 have h0:(40:Nat)≠b:=h 0 (by omega);have h1:(41:Nat)≠b:=h 1 (by omega);have h2:(38:Nat)≠b:=h 2 (by omega);have h3:(124:Nat)≠b:=h 3 (by omega);have h4:(33:Nat)≠b:=h 4 (by omega);have h5:(62:Nat)≠b:=h 5 (by omega);have h6:(126:Nat)≠b:=h 6 (by omega);unfold j3;rw[if_neg (by omega),if_neg (by omega),if_neg (by omega),if_neg (by omega),if_neg (by omega),if_neg (by omega),if_neg (by omega)]
theorem al5(b:Nat)(w:World):
 Calls prog 98 #[.int .u8 (b:Nat)] w fun e w'=>e=.returned (.int .i64 (j3 b:Nat))/\w'=w:=by
 obtain⟨x,hx⟩:∃x:ByteArray,x=⟨#[40,41,38,124,33,62,126]⟩:=⟨_,rfl⟩;have hsz:x.size=7:=by rw[hx];rfl
 have HX:=aa hx;go_enter func98,ntmps98;go_wp2_with fail
 rw[<-hx];clear hx;go_loopw[4] (fun n wr=>∃k:Nat,n=.int .i64 (k:Nat)/\k<=7/\(∀i,i<k->tb x i≠b)/\wr=w) (fun n _=>7-(intOf n).toNat)
 case atStart=>exact⟨0,rfl,by omega,fun i hi=>by omega,rfl⟩
 case round=>
  obtain⟨k,rfl,hk,hn,rfl⟩:=hrel;have Hn:=aa hn;clear hn;by_cases hlt:k<7
  ·have hki:(k:Int)<x.size:=by omega
   have hb:x[k].toNat=tb x k:=ia x k (by omega);by_cases he:tb x k=b
   ·have hbe:((tb x k:Int)==(b:Int))=true:=by rw[he];simp
    have hkd:j3 b=k+1:=by rw[<-he,HX.out];exact kind_at k hlt
    have Hkd:=aa hkd;clear he hkd;go_wp2_with fail
    go_ret;exact⟨by rw[Hkd.out];rfl,rfl⟩
   ·have hbe:((tb x k:Int)==(b:Int))=false:=by rw[ax];omega
    have He:=aa he;clear he;go_wp2_with fail
    refine⟨⟨k+1,by go_num,by omega,fun i hi=>?_,trivial⟩,by simp[intOf];omega⟩;by_cases h:i<k
    ·exact Hn.out i h
    ·obtain rfl:i=k:=by omega
     exact He.out
  ·have hki:¬(k:Int)<x.size:=by omega
   go_wp2_with fail
   go_ret;exact⟨by rw[anb (b:=b) fun i hi=>by rw[<-HX.out];exact Hn.out i (by omega)];rfl,rfl⟩
def GotN(s:ByteArray)(p:Nat)(v:Value):Prop:=GBad v\/∃n q:Nat,agz s p n q/\v=gv 0 0 0 0 0 (.slice none 0 0) (n:Nat) (q:Nat) 0
theorem afd(s:ByteArray)(p:Nat)(hs:s.size<=1000)(hp:p<=s.size)(w:World):
 Calls prog 99 #[.string s,.int .i64 (p:Nat)] w fun e w'=>∃v,e=.returned v/\Below w.heap.size w w'/\GotN s p v:=by
 have hsi:(s.size:Int)<=1000:=by omega
 have HA:=aa (At.new w (j7 0 0 0 0 0 (.slice none 0 0) 0 0 0));have HB:=aa ((aw w.heap.size w).alloc ac (j7 0 0 0 0 0 (.slice none 0 0) 0 0 0));go_enter func99,ntmps99;go_wp2_with fail
 generalize (w.alloc (.cells #[.int .u8 0,.int .u64 0,.int .u64 0,.int .u64 0,.int .u64 0,.slice none 0 0,.int .i64 0,.int .i64 0,.int .i64 0] 120))=W1 at *;obtain⟨⟨c0,c1,c2,c3,c4,c5,c6,c7,c8⟩,⟨f0,f1,f2,f3,f4,f5,f6,f7,f8⟩,hl⟩:=HA.out.nine;go_loopw[5,6] (fun q n wr=>∃k N:Nat,(∀i,i<k->p+i<s.size/\ro (tb s (p+i))=true)/\(N<=1000000->N=dv s p k)/\N<=10000009/\q=.int .i64 ((p+k:Nat):Int)/\n=.int .i64 (N:Nat)/\p+k<=s.size/\wr=W1) (fun q _ _=>s.size-(intOf q).toNat)
 case atStart=>exact⟨0,0,fun i hi=>by omega,fun _=>rfl,by omega,rfl,rfl,hp,rfl⟩
 case round=>
  obtain⟨k,N,hk,hN,hN2,rfl,rfl,hpk,rfl⟩:=hrel;have HK:=aa hk;have HN:=aa hN;clear hk hN;obtain⟨r,hr⟩:∃r,r=p+k:=⟨_,rfl⟩;rw[<-hr]at hpk⊢;have HR:=aa hr;clear hr;by_cases hlt:r<s.size
  ·have hri:(r:Int)<s.size:=by omega
   have hb:s[r].toNat=tb s r:=ia s r hlt;have hle:=jq s r;by_cases h48:(48:Int)<=tb s r
   ·by_cases h57:(tb s r:Int)<=57
    ·have hd:ro (tb s r)=true:=by simp[ro];omega
     have Hd:=aa hd;clear hd;have hstep:∀i,i<k+1->p+i<s.size/\ro (tb s (p+i))=true:=fun i hi=>by
      by_cases h:i<k
      ·exact HK.out i h
      ·obtain rfl:i=k:=by omega
       rw[<-HR.out];exact⟨hlt,Hd.out⟩
     have Hstep:=aa hstep;clear hstep;by_cases hbig:(N:Int)<=1000000
     ·go_wp2_with fail
      go_roundw
      case rel=>
       refine⟨k+1,10*N+(tb s r-48),Hstep.out,fun _=>?_,by omega,?_,?_,by have:=HR.out;omega,trivial⟩
       ·rw[HN.out (by omega),HR.out];rfl
       ·have h:((p+(k+1):Nat):Int)=(r:Int)+1:=by have:=HR.out;omega
        rw[h]
       ·have h:((10*N+(tb s r-48):Nat):Int)=10*(N:Int)+(tb s r:Int)-48:=by omega
        rw[h]
      case measure=>simp[intOf];omega
     ·go_wp2_with fail
      go_roundw
      case rel=>
       refine⟨k+1,N,Hstep.out,fun h=>by omega,by omega,?_,rfl,by have:=HR.out;omega,trivial⟩;have h:((p+(k+1):Nat):Int)=(r:Int)+1:=by have:=HR.out;omega
       rw[h]
      case measure=>simp[intOf];omega
    ·have hnd:¬(p+k<s.size/\ro (tb s (p+k))=true):=fun h=>by rw[<-HR.out]at h;have:=h.2;simp[ro]at this;omega
     have Hnd:=aa hnd;clear hnd;by_cases hk0:k=0
     ·have hrp:((r:Int)==p)=true:=by have:=HR.out;simp;omega
      clear hk0;go_wp2_with fail
      exact ay (v:=gv 0 0 0 0 0 (.slice none 0 0) 0 p 134) (by simp[results,results99,go_sem,c0,c1,c2,c3,c4,c5,c6,c7,c8]) rfl ⟨_,rfl,fg HB.out ac ..,.inl ⟨_,_,rfl,by decide⟩⟩
     ·have hrp:((r:Int)==p)=false:=by have:=HR.out;rw[ax];omega
      have hps:p<s.size:=by have:=(HK.out 0 (by omega)).1;omega
      have hps2:(p:Int)<s.size:=by omega
      have hbp:s[p].toNat=tb s p:=ia s p hps;have Hk0:=aa hk0;clear hk0;by_cases h48:tb s p=48
      ·have g1:((tb s p:Int)==48)=true:=by rw[h48];rfl
       have H48:=aa h48;clear h48;by_cases g2:(p:Int)+1<r
       ·go_wp2_with fail
        exact ay (v:=gv 0 0 0 0 0 (.slice none 0 0) 0 p 134) (by simp[results,results99,go_sem,c0,c1,c2,c3,c4,c5,c6,c7,c8]) rfl ⟨_,rfl,fg HB.out ac ..,.inl ⟨_,_,rfl,by decide⟩⟩
       ·by_cases hbig:(1000000:Int)<N
        ·go_wp2_with fail
         exact ay (v:=gv 0 0 0 0 0 (.slice none 0 0) 0 p 134) (by simp[results,results99,go_sem,c0,c1,c2,c3,c4,c5,c6,c7,c8]) rfl ⟨_,rfl,fg HB.out ac ..,.inl ⟨_,_,rfl,by decide⟩⟩
        ·go_wp2_with fail
         exact ay (v:=gv 0 0 0 0 0 (.slice none 0 0) (N:Nat) (r:Nat) 0) (by simp[results,results99,go_sem,c0,c1,c2,c3,c4,c5,c6,c7,c8]) rfl ⟨_,rfl,fg HB.out ac ..,.inr ⟨N,r,⟨k,Hk0.out,HK.out,Hnd.out,fun h=>by have:=HR.out;have:=Hk0.out;omega,HN.out (by omega),by omega,HR.out⟩,rfl⟩⟩
      ·have g1:((tb s p:Int)==48)=false:=by rw[ax];omega
       have H48:=aa h48;clear h48;by_cases hbig:(1000000:Int)<N
       ·go_wp2_with fail
        exact ay (v:=gv 0 0 0 0 0 (.slice none 0 0) 0 p 134) (by simp[results,results99,go_sem,c0,c1,c2,c3,c4,c5,c6,c7,c8]) rfl ⟨_,rfl,fg HB.out ac ..,.inl ⟨_,_,rfl,by decide⟩⟩
       ·go_wp2_with fail
        exact ay (v:=gv 0 0 0 0 0 (.slice none 0 0) (N:Nat) (r:Nat) 0) (by simp[results,results99,go_sem,c0,c1,c2,c3,c4,c5,c6,c7,c8]) rfl ⟨_,rfl,fg HB.out ac ..,.inr ⟨N,r,⟨k,Hk0.out,HK.out,Hnd.out,fun h=>absurd h H48.out,HN.out (by omega),by omega,HR.out⟩,rfl⟩⟩
   ·have hdec:decide ((48:Int)<=(tb s r:Int))=false:=bv h48
    have hnd:¬(p+k<s.size/\ro (tb s (p+k))=true):=fun h=>by rw[<-HR.out]at h;have:=h.2;simp[ro]at this;omega
    clear h48;have Hnd:=aa hnd;clear hnd;by_cases hk0:k=0
    ·have hrp:((r:Int)==p)=true:=by have:=HR.out;simp;omega
     clear hk0;go_wp2_with fail
     exact ay (v:=gv 0 0 0 0 0 (.slice none 0 0) 0 p 134) (by simp[results,results99,go_sem,c0,c1,c2,c3,c4,c5,c6,c7,c8]) rfl ⟨_,rfl,fg HB.out ac ..,.inl ⟨_,_,rfl,by decide⟩⟩
    ·have hrp:((r:Int)==p)=false:=by have:=HR.out;rw[ax];omega
     have hps:p<s.size:=by have:=(HK.out 0 (by omega)).1;omega
     have hps2:(p:Int)<s.size:=by omega
     have hbp:s[p].toNat=tb s p:=ia s p hps;have Hk0:=aa hk0;clear hk0;by_cases h48:tb s p=48
     ·have g1:((tb s p:Int)==48)=true:=by rw[h48];rfl
      have H48:=aa h48;clear h48;by_cases g2:(p:Int)+1<r
      ·go_wp2_with fail
       exact ay (v:=gv 0 0 0 0 0 (.slice none 0 0) 0 p 134) (by simp[results,results99,go_sem,c0,c1,c2,c3,c4,c5,c6,c7,c8]) rfl ⟨_,rfl,fg HB.out ac ..,.inl ⟨_,_,rfl,by decide⟩⟩
      ·by_cases hbig:(1000000:Int)<N
       ·go_wp2_with fail
        exact ay (v:=gv 0 0 0 0 0 (.slice none 0 0) 0 p 134) (by simp[results,results99,go_sem,c0,c1,c2,c3,c4,c5,c6,c7,c8]) rfl ⟨_,rfl,fg HB.out ac ..,.inl ⟨_,_,rfl,by decide⟩⟩
       ·go_wp2_with fail
        exact ay (v:=gv 0 0 0 0 0 (.slice none 0 0) (N:Nat) (r:Nat) 0) (by simp[results,results99,go_sem,c0,c1,c2,c3,c4,c5,c6,c7,c8]) rfl ⟨_,rfl,fg HB.out ac ..,.inr ⟨N,r,⟨k,Hk0.out,HK.out,Hnd.out,fun h=>by have:=HR.out;have:=Hk0.out;omega,HN.out (by omega),by omega,HR.out⟩,rfl⟩⟩
     ·have g1:((tb s p:Int)==48)=false:=by rw[ax];omega
      have H48:=aa h48;clear h48;by_cases hbig:(1000000:Int)<N
      ·go_wp2_with fail
       exact ay (v:=gv 0 0 0 0 0 (.slice none 0 0) 0 p 134) (by simp[results,results99,go_sem,c0,c1,c2,c3,c4,c5,c6,c7,c8]) rfl ⟨_,rfl,fg HB.out ac ..,.inl ⟨_,_,rfl,by decide⟩⟩
      ·go_wp2_with fail
       exact ay (v:=gv 0 0 0 0 0 (.slice none 0 0) (N:Nat) (r:Nat) 0) (by simp[results,results99,go_sem,c0,c1,c2,c3,c4,c5,c6,c7,c8]) rfl ⟨_,rfl,fg HB.out ac ..,.inr ⟨N,r,⟨k,Hk0.out,HK.out,Hnd.out,fun h=>absurd h H48.out,HN.out (by omega),by omega,HR.out⟩,rfl⟩⟩
  ·have hri:¬(r:Int)<s.size:=by omega
   have hnd:¬(p+k<s.size/\ro (tb s (p+k))=true):=fun h=>by rw[<-HR.out]at h;exact hlt h.1
   have Hnd:=aa hnd;clear hnd;by_cases hk0:k=0
   ·have hrp:((r:Int)==p)=true:=by have:=HR.out;simp;omega
    clear hk0;go_wp2_with fail
    exact ay (v:=gv 0 0 0 0 0 (.slice none 0 0) 0 p 134) (by simp[results,results99,go_sem,c0,c1,c2,c3,c4,c5,c6,c7,c8]) rfl ⟨_,rfl,fg HB.out ac ..,.inl ⟨_,_,rfl,by decide⟩⟩
   ·have hrp:((r:Int)==p)=false:=by have:=HR.out;rw[ax];omega
    have hps:p<s.size:=by have:=(HK.out 0 (by omega)).1;omega
    have hps2:(p:Int)<s.size:=by omega
    have hbp:s[p].toNat=tb s p:=ia s p hps;have Hk0:=aa hk0;clear hk0;by_cases h48:tb s p=48
    ·have g1:((tb s p:Int)==48)=true:=by rw[h48];rfl
     have H48:=aa h48;clear h48;by_cases g2:(p:Int)+1<r
     ·go_wp2_with fail
      exact ay (v:=gv 0 0 0 0 0 (.slice none 0 0) 0 p 134) (by simp[results,results99,go_sem,c0,c1,c2,c3,c4,c5,c6,c7,c8]) rfl ⟨_,rfl,fg HB.out ac ..,.inl ⟨_,_,rfl,by decide⟩⟩
     ·by_cases hbig:(1000000:Int)<N
      ·go_wp2_with fail
       exact ay (v:=gv 0 0 0 0 0 (.slice none 0 0) 0 p 134) (by simp[results,results99,go_sem,c0,c1,c2,c3,c4,c5,c6,c7,c8]) rfl ⟨_,rfl,fg HB.out ac ..,.inl ⟨_,_,rfl,by decide⟩⟩
      ·go_wp2_with fail
       exact ay (v:=gv 0 0 0 0 0 (.slice none 0 0) (N:Nat) (r:Nat) 0) (by simp[results,results99,go_sem,c0,c1,c2,c3,c4,c5,c6,c7,c8]) rfl ⟨_,rfl,fg HB.out ac ..,.inr ⟨N,r,⟨k,Hk0.out,HK.out,Hnd.out,fun h=>by have:=HR.out;have:=Hk0.out;omega,HN.out (by omega),by omega,HR.out⟩,rfl⟩⟩
    ·have g1:((tb s p:Int)==48)=false:=by rw[ax];omega
     have H48:=aa h48;clear h48;by_cases hbig:(1000000:Int)<N
     ·go_wp2_with fail
      exact ay (v:=gv 0 0 0 0 0 (.slice none 0 0) 0 p 134) (by simp[results,results99,go_sem,c0,c1,c2,c3,c4,c5,c6,c7,c8]) rfl ⟨_,rfl,fg HB.out ac ..,.inl ⟨_,_,rfl,by decide⟩⟩
     ·go_wp2_with fail
      exact ay (v:=gv 0 0 0 0 0 (.slice none 0 0) (N:Nat) (r:Nat) 0) (by simp[results,results99,go_sem,c0,c1,c2,c3,c4,c5,c6,c7,c8]) rfl ⟨_,rfl,fg HB.out ac ..,.inr ⟨N,r,⟨k,Hk0.out,HK.out,Hnd.out,fun h=>absurd h H48.out,HN.out (by omega),by omega,HR.out⟩,rfl⟩⟩
end
section
set_option maxRecDepth 100000
set_option maxHeartbeats 4000000
open Go.RowKit Go.Shelf
structure RPSt(w0 w:World)(s:ByteArray)(p q:Nat)(v:Value)(l:List (Nat->Bool)):Prop where
 hG:At w w0.heap.size (j7 0 0 0 0 0 (.slice none 0 0) 0 0 0)
 ql:q<=s.size
 ll:l.length<=64
 own:w.ownsRow (w0.heap.size+1) 100 4 v l.length (ji l)
 bl:Below w0.heap.size w0 w
 cps:∀m p',tv s q l.length m p'->tv s p 0 (l++m) p'
def aso(s:ByteArray)(p:Nat)(w:World)(e:Ending)(w':World):Prop:=
 ∃v,e=.returned v/\Below w.heap.size w w'/\(GBadC v\/∃(r:Value)(l:List (Nat->Bool))(q:Nat),v=gv 0 0 0 0 0 r 0 (q:Nat) 0/\w'.ownsRow w.heap.size 100 4 r l.length (ji l)/\tv s p 0 l q)
theorem ac8(s:ByteArray)(p:Nat)(hs:s.size<=1000)(hp:p<=s.size)(w:World):
 Calls prog 97 #[.string s,.int .i64 (p:Nat)] w (aso s p w):=by
 have hsi:(s.size:Int)<=1000:=by omega
 have HA:=aa (At.new w (j7 0 0 0 0 0 (.slice none 0 0) 0 0 0));have HB:=aa ((aw w.heap.size w).alloc ac (j7 0 0 0 0 0 (.slice none 0 0) 0 0 0));have hsz:(w.alloc (j7 0 0 0 0 0 (.slice none 0 0) 0 0 0)).heap.size=w.heap.size+1:=by simp
 go_enter func97,ntmps97;go_wp2_with fail
 generalize (w.alloc (yh 0 0))=W1 at *;go_loopw[1,5] (fun i v wr=>∃(q:Nat)(l:List (Nat->Bool)),i=.int .i64 (q:Nat)/\RPSt w wr s p q v l) (fun i _ _=>s.size-(intOf i).toNat)
 case atStart=>exact⟨p,[],rfl,HA.out,hp,cx _,bj _ _ _ _,HB.out,fun m p' h=>h⟩
 case round=>
  obtain⟨q,l,rfl,H⟩:=hrel;have HH:=aa H;obtain⟨⟨c0,c1,c2,c3,c4,c5,c6,c7,c8⟩,⟨f0,f1,f2,f3,f4,f5,f6,f7,f8⟩,hl⟩:=H.hG.nine;have hql:=H.ql;have hll:=H.ll;clear H;by_cases hlt:q<s.size
  ·have hqi:(q:Int)<s.size:=by omega
   have hb:s[q].toNat=tb s q:=ia s q hlt;have H5:=aa fun w=>amb s q hs hlt w
   have HO:=aa HH.out.own;obtain⟨ad,cap,rfl⟩:=ey HH.out.own;have hli:(l.length:Int)<=64:=by omega
   by_cases h34:tb s q=34
   ·have g:((tb s q:Int)==34)=true:=by rw[h34];rfl
    have H34:=aa h34;clear h34;by_cases hl0:l.length=0
    ·have hz:((l.length:Int)==0)=true:=by rw[hl0];rfl
     go_wp2_with fail
     exact ay (v:=gv 0 0 0 0 0 (.slice none 0 0) 0 ((q:Nat)) 135) (by simp[results,results97,go_sem,c0,c1,c2,c3,c4,c5,c6,c7,c8]) rfl ⟨_,rfl,fg HH.out.bl ac ..,.inl ⟨0,0,0,0,0,q,135,rfl,by decide⟩⟩
    ·have hz:((l.length:Int)==0)=false:=by rw[ax];omega
     have Hl0:=aa hl0;clear hl0;go_wp2_with fail
     exact ay (v:=gv 0 0 0 0 0 (.slice ad l.length cap) 0 ((q+1:Nat):Int) 0) (by simp[results,results97,go_sem,c0,c1,c2,c3,c4,c5,c6,c7,c8]) rfl ⟨_,rfl,fg HH.out.bl ac ..,.inr ⟨_,l,q+1,rfl,fx (jl HO.out ((((((((((Ex.refl [w.heap.size] wr).set w.heap.size 0 _ (by simp)).set w.heap.size 1 _ (by simp)).set w.heap.size 2 _ (by simp)).set w.heap.size 3 _ (by simp)).set w.heap.size 4 _ (by simp)).set w.heap.size 5 _ (by simp)).set w.heap.size 6 _ (by simp)).set w.heap.size 7 _ (by simp)).set w.heap.size 8 _ (by simp)) (Nat.lt_succ_self _)) (dt _),by have:=HH.out.cps [] (q+1) (.close q l.length hlt H34.out Hl0.out);rwa[dh]at this⟩⟩
   ·have g:((tb s q:Int)==34)=false:=by rw[ax];omega
    have H34:=aa h34;clear h34;by_cases h64:l.length=64
    ·have hz:((l.length:Int)==64)=true:=by rw[h64];rfl
     go_wp2_with fail
     exact ay (v:=gv 0 0 0 0 0 (.slice none 0 0) 0 ((q:Nat)) 135) (by simp[results,results97,go_sem,c0,c1,c2,c3,c4,c5,c6,c7,c8]) rfl ⟨_,rfl,fg HH.out.bl ac ..,.inl ⟨0,0,0,0,0,q,135,rfl,by decide⟩⟩
    ·have hz:((l.length:Int)==64)=false:=by rw[ax];omega
     have H64:=aa h64;clear h64 c0 c1 c2 c3 c4 c5 c6 c7 c8 f0 f1 f2 f3 f4 f5 f6 f7 f8;go_wp2_with fail
     go_at_call 152;refine(H5.out _).mono ?_;rintro e w3⟨v,rfl,hb3,hg⟩;have HG3:=aa (HH.out.hG.below hb3 HH.out.hG.lt);have HO3:=aa (fe HO.out hb3);have HB3:=aa (HH.out.bl.trans (hb3.mono HH.out.bl.size));clear hb3 hl;obtain⟨b,x0,x1,x2,x3,nx,e,rfl,hne⟩|⟨b,S,q6,hS,rfl⟩:=hg
     ·have hne2:(e !=0)=true:=by rw[bne_iff_ne];exact hne
      go_upto_region 10 with fail
      have HG4:=aa (HG3.out.alloc (j7 b x0 x1 x2 x3 (.slice none 0 0) 0 nx e));have HT4:=aa (At.new w3 (j7 b x0 x1 x2 x3 (.slice none 0 0) 0 nx e));have HB4:=aa (HB3.out.alloc HB3.out.size (j7 b x0 x1 x2 x3 (.slice none 0 0) 0 nx e));generalize (w3.alloc (j7 b x0 x1 x2 x3 (.slice none 0 0) 0 nx e))=W4 at *;obtain⟨⟨c0,c1,c2,c3,c4,c5,c6,c7,c8⟩,⟨f0,f1,f2,f3,f4,f5,f6,f7,f8⟩,hl⟩:=HG4.out.nine;obtain⟨⟨t0,t1,t2,t3,t4,t5,t6,t7,t8⟩,-,tl⟩:=HT4.out.nine;go_wp2_with fail
      exact ay (v:=gv b x0 x1 x2 x3 (.slice none 0 0) 0 nx e) (by simp[results,results97,go_sem,c0,c1,c2,c3,c4,c5,c6,c7,c8]) rfl ⟨_,rfl,fg HB4.out ac ..,.inl ⟨b,x0,x1,x2,x3,nx,e,rfl,hne⟩⟩
     ·have HS:=aa hS
      have hSl:=hS.lt hlt;clear hS;go_upto_region 10 with fail
      have hb':=(aw w3.heap.size w3).alloc ac (j7 b (wd S 0) (wd S 1) (wd S 2) (wd S 3) (.slice none 0 0) 0 (q6:Nat) 0);have HG4:=aa (HG3.out.below hb' HG3.out.lt);have HO4:=aa (fe HO3.out hb');have HT4:=aa (At.new w3 (j7 b (wd S 0) (wd S 1) (wd S 2) (wd S 3) (.slice none 0 0) 0 (q6:Nat) 0));have HB4:=aa (HB3.out.trans (hb'.mono HB3.out.size));clear hb';generalize (w3.alloc (j7 b (wd S 0) (wd S 1) (wd S 2) (wd S 3) (.slice none 0 0) 0 (q6:Nat) 0))=W4 at *;have HNz:=aa (show w.heap.size+1<=W4.heap.size from HG4.out.lt);obtain⟨⟨t0,t1,t2,t3,t4,t5,t6,t7,t8⟩,-,tl⟩:=HT4.out.nine;go_wp2_with(at_builtin;refine gr ot rfl _ _ rfl rfl HO4.out [.int .u64 (wd S 0:Nat),.int .u64 (wd S 1:Nat),.int .u64 (wd S 2:Nat),.int .u64 (wd S 3:Nat)] rfl rfl (by simp[Value.oneCell']) (by unfold maxLen;omega) (by omega) HNz.out ?_;intro v9 w9 hown9 hb9 hk9;have HO9:=aa hown9;have HG9:=aa (HG4.out.below hb9 (Nat.lt_succ_self _));have HT9:=aa (show At w9 _ _ from hk9 120 (by decide) _ _ _ HT4.out);have HB9:=aa (HB4.out.trans (hb9.mono (dt _)));clear t0 t1 t2 t3 t4 t5 t6 t7 t8 tl hown9 hb9 hk9;obtain⟨⟨t0,t1,t2,t3,t4,t5,t6,t7,t8⟩,-,tl⟩:=HT9.out.nine)
      go_roundw
      case rel=>
       refine⟨q6,l++[S],rfl,HG9.out,hSl.2,by rw[bd];show l.length+1<=64;have:=H64.out;omega,by rw[bd,pq];exact HO9.out,HB9.out,fun m' p' h=>?_⟩;rw[dc];rw[bd]at h;exact HH.out.cps _ _ (.elem q l.length S q6 m' p' hlt H34.out (by have:=H64.out;omega) HS.out h)
      case measure=>simp[intOf];omega
  ·have hqi:¬(q:Int)<s.size:=by omega
   go_wp2_with fail
   exact ay (v:=gv 0 0 0 0 0 (.slice none 0 0) 0 (s.size) 133) (by simp[results,results97,go_sem,c0,c1,c2,c3,c4,c5,c6,c7,c8]) rfl ⟨_,rfl,fg HH.out.bl ac ..,.inl ⟨0,0,0,0,0,s.size,133,rfl,by decide⟩⟩
end
section
set_option maxRecDepth 100000
set_option maxHeartbeats 8000000
open Go.RowKit Go.Shelf
def agx(s:ByteArray)(p:Nat)(w:World)(e:Ending)(w':World):Prop:=
 ∃(k a n:Int)(ad:Option Addr)(m cap:Nat)(v:Value),e=.returned (.tuple #[.agg #[.int .i64 k,.int .i64 a,.int .i64 n,.slice ad m cap],v])/\Below w.heap.size w w'∧
  ((∃(b x0 x1 x2 x3:Nat)(pa:Option Addr)(pm pc:Nat)(n' nx e:Int),v=gv b x0 x1 x2 x3 (.slice pa pm pc) n' nx e/\(e≠0\/∃(t:gq)(q:Nat),e=0/\nx=(q:Nat)/\xq s p t q/\rt w' t [.int .i64 k,.int .i64 a,.int .i64 n,.slice ad m cap])))
theorem xh(w:World)(A C:Nat)(a0 a1 a2 a3:Value)(b x0 x1 x2 x3:Nat)(pl:Value)(n nx e:Int):Ex [A,C] w (put9 ((((w.setCell ⟨A,0,none⟩ a0).setCell ⟨A,1,none⟩ a1).setCell ⟨A,2,none⟩ a2).setCell ⟨A,3,none⟩ a3) C b x0 x1 x2 x3 pl n nx e):=
 (((((((((((((Ex.refl [A,C] w).set A 0 _ (by simp)).set A 1 _ (by simp)).set A 2 _ (by simp)).set A 3 _ (by simp)).set C 0 _ (by simp)).set C 1 _ (by simp)).set C 2 _ (by simp)).set C 3 _ (by simp)).set C 4 _ (by simp)).set C 5 _ (by simp)).set C 6 _ (by simp)).set C 7 _ (by simp)).set C 8 _ (by simp)
theorem At.drew{w:World}{B:Nat}{o:Obj}(h:At w B o):At w.drew B o:=h
theorem xp{w:World}{A C:Nat}{u0 u1 u2 u3 a0 a1 a2 a3:Value}{b' y0 y1 y2 y3:Nat}{pl':Value}{n' nx' e':Int}(hA:At w A (.cells #[u0,u1,u2,u3] 71))(hC:At w C (j7 b' y0 y1 y2 y3 pl' n' nx' e'))(hne:A≠C)(b x0 x1 x2 x3:Nat)(pl:Value)(n nx e:Int):
 At (put9 ((((w.setCell ⟨A,0,none⟩ a0).setCell ⟨A,1,none⟩ a1).setCell ⟨A,2,none⟩ a2).setCell ⟨A,3,none⟩ a3) C b x0 x1 x2 x3 pl n nx e) A (.cells #[a0,a1,a2,a3] 71)/\At (put9 ((((w.setCell ⟨A,0,none⟩ a0).setCell ⟨A,1,none⟩ a1).setCell ⟨A,2,none⟩ a2).setCell ⟨A,3,none⟩ a3) C b x0 x1 x2 x3 pl n nx e) C (j7 b x0 x1 x2 x3 pl n nx e):=by
 have h1:=(((hA.set 0 a0).set 1 a1).set 2 a2).set 3 a3;have h2:=(((hC.far (p:=⟨A,0,none⟩) hne a0).far (p:=⟨A,1,none⟩) hne a1).far (p:=⟨A,2,none⟩) hne a2).far (p:=⟨A,3,none⟩) hne a3;have hne':C≠A:=fun h=>hne h.symm
 have h3:=(((((((((h2.set 0 (.int .u8 (b:Nat))).set 1 (.int .u64 (x0:Nat))).set 2 (.int .u64 (x1:Nat))).set 3 (.int .u64 (x2:Nat))).set 4 (.int .u64 (x3:Nat))).set 5 (pl)).set 6 (.int .i64 n)).set 7 (.int .i64 nx)).set 8 (.int .i64 e));have h4:=(((((((((h1.far (p:=⟨C,0,none⟩) hne' (.int .u8 (b:Nat))).far (p:=⟨C,1,none⟩) hne' (.int .u64 (x0:Nat))).far (p:=⟨C,2,none⟩) hne' (.int .u64 (x1:Nat))).far (p:=⟨C,3,none⟩) hne' (.int .u64 (x2:Nat))).far (p:=⟨C,4,none⟩) hne' (.int .u64 (x3:Nat))).far (p:=⟨C,5,none⟩) hne' (pl)).far (p:=⟨C,6,none⟩) hne' (.int .i64 n)).far (p:=⟨C,7,none⟩) hne' (.int .i64 nx)).far (p:=⟨C,8,none⟩) hne' (.int .i64 e));simp only[ag,ai,aj]at h3 h4;exact⟨h4,h3⟩
theorem apm(s:ByteArray)(p:Nat)(hs:s.size<=1000)(hp:p<s.size)(h34:tb s p=34)(w:World):
 Calls prog 53 #[.string s,.int .i64 (p:Nat)] w (agx s p w):=by
 have hsi:(s.size:Int)<=1000:=by omega
 have hpi:(p:Int)<s.size:=by omega
 have hb:s[p].toNat=tb s p:=ia s p hp;have hle:=jq s p;go_enter func53,ntmps53;have g:((tb s p:Int)==34)=true:=by rw[h34];rfl
 have H34:=aa h34;clear h34;have hpat:=aa fun w=>ac8 s (p+1) hs (by omega) w
 go_wp2_with fail
 have HA:=aa ((At.new w (.cells #[.int .i64 0,.int .i64 0,.int .i64 0,.slice none 0 0] 71)).alloc (yh 0 0));have HB:=aa (((aw w.heap.size w).alloc ac (.cells #[.int .i64 0,.int .i64 0,.int .i64 0,.slice none 0 0] 71)).alloc (by simp) (yh 0 0));have hC:=At.new (w.alloc (.cells #[.int .i64 0,.int .i64 0,.int .i64 0,.slice none 0 0] 71)) (yh 0 0);rw[bg]at hC;have HC:=aa hC;clear hC;generalize ((w.alloc (.cells #[.int .i64 0,.int .i64 0,.int .i64 0,.slice none 0 0] 71)).alloc (yh 0 0))=W2 at *;refine((show∀w,_ from hpat.out) _).mono ?_;rintro e w3⟨v,rfl,hb3,hg⟩;have HA3:=aa (HA.out.below hb3 HA.out.lt);have HC3:=aa (HC.out.below hb3 HC.out.lt);have HB3:=aa (HB.out.trans (hb3.mono HB.out.size));clear hb3;obtain⟨b,x0,x1,x2,x3,nx,e,rfl,hne⟩|⟨r,l,q,rfl,hro,hP⟩:=hg
 ·go_upto_region 3 with fail
  have HA4:=aa (HA3.out.alloc (j7 b x0 x1 x2 x3 (.slice none 0 0) 0 nx e));have HC4:=aa (HC3.out.alloc (j7 b x0 x1 x2 x3 (.slice none 0 0) 0 nx e));have HT4:=aa (At.new w3 (j7 b x0 x1 x2 x3 (.slice none 0 0) 0 nx e));have HB4:=aa (HB3.out.alloc HB3.out.size (j7 b x0 x1 x2 x3 (.slice none 0 0) 0 nx e));generalize w3.alloc (j7 b x0 x1 x2 x3 (.slice none 0 0) 0 nx e)=W4 at *;have q1':w.heap.size≠w3.heap.size:=by have:=HA3.out.lt;omega
  have q2':w3.heap.size≠w.heap.size:=fun h=>q1' h.symm
  have q3':w.heap.size+1≠w3.heap.size:=by have:=HC3.out.lt;omega
  have q4':w3.heap.size≠w.heap.size+1:=fun h=>q3' h.symm
  generalize w3.heap.size=T at *;obtain⟨⟨c0,c1,c2,c3,c4,c5,c6,c7,c8⟩,⟨f0,f1,f2,f3,f4,f5,f6,f7,f8⟩,hl⟩:=At.nine (b:=0) (x0:=0) (x1:=0) (x2:=0) (x3:=0) HC4.out;obtain⟨⟨t0,t1,t2,t3,t4,t5,t6,t7,t8⟩,-,tl⟩:=At.nine HT4.out;have a0:=HA4.out.cell 0;have a1:=HA4.out.cell 1;have a2:=HA4.out.cell 2;have a3:=HA4.out.cell 3;have z0:=HA4.out.free 0;have z1:=HA4.out.free 1;have z2:=HA4.out.free 2;have z3:=HA4.out.free 3;have zl:=HA4.out.lt;simp only[ak,am,au]at a0 a1 a2 a3;obtain⟨hA5,hC5⟩:=xp (a0:=.int .i64 8) (a1:=.int .i64 p) (a2:=.int .i64 0) (a3:=.slice none 0 0) HA4.out HC4.out (Nat.succ_ne_self _).symm b x0 x1 x2 x3 (.slice none 0 0) 0 nx e;have hE5:Hid (Ex [w.heap.size,w.heap.size+1] W4 (((((((((((((W4.setCell ⟨w.heap.size,0,none⟩ (.int .i64 8)).setCell ⟨w.heap.size,1,none⟩ (.int .i64 p)).setCell ⟨w.heap.size,2,none⟩ (.int .i64 0)).setCell ⟨w.heap.size,3,none⟩ (.slice none 0 0)).setCell ⟨w.heap.size+1,0,none⟩ (.int .u8 (b:Nat))).setCell ⟨w.heap.size+1,1,none⟩ (.int .u64 (x0:Nat))).setCell ⟨w.heap.size+1,2,none⟩ (.int .u64 (x1:Nat))).setCell ⟨w.heap.size+1,3,none⟩ (.int .u64 (x2:Nat))).setCell ⟨w.heap.size+1,4,none⟩ (.int .u64 (x3:Nat))).setCell ⟨w.heap.size+1,5,none⟩ (.slice none 0 0)).setCell ⟨w.heap.size+1,6,none⟩ (.int .i64 0)).setCell ⟨w.heap.size+1,7,none⟩ (.int .i64 nx)).setCell ⟨w.heap.size+1,8,none⟩ (.int .i64 e)).drew):=aa (xh W4 w.heap.size (w.heap.size+1) (.int .i64 8) (.int .i64 p) (.int .i64 0) (.slice none 0 0) b x0 x1 x2 x3 (.slice none 0 0) 0 nx e).drew;go_region;have hA5':=aa (show At (((((((((((((W4.setCell ⟨w.heap.size,0,none⟩ (.int .i64 8)).setCell ⟨w.heap.size,1,none⟩ (.int .i64 p)).setCell ⟨w.heap.size,2,none⟩ (.int .i64 0)).setCell ⟨w.heap.size,3,none⟩ (.slice none 0 0)).setCell ⟨w.heap.size+1,0,none⟩ (.int .u8 (b:Nat))).setCell ⟨w.heap.size+1,1,none⟩ (.int .u64 (x0:Nat))).setCell ⟨w.heap.size+1,2,none⟩ (.int .u64 (x1:Nat))).setCell ⟨w.heap.size+1,3,none⟩ (.int .u64 (x2:Nat))).setCell ⟨w.heap.size+1,4,none⟩ (.int .u64 (x3:Nat))).setCell ⟨w.heap.size+1,5,none⟩ (.slice none 0 0)).setCell ⟨w.heap.size+1,6,none⟩ (.int .i64 0)).setCell ⟨w.heap.size+1,7,none⟩ (.int .i64 nx)).setCell ⟨w.heap.size+1,8,none⟩ (.int .i64 e)).drew _ _ from At.drew hA5);have hC5':=aa (show At (((((((((((((W4.setCell ⟨w.heap.size,0,none⟩ (.int .i64 8)).setCell ⟨w.heap.size,1,none⟩ (.int .i64 p)).setCell ⟨w.heap.size,2,none⟩ (.int .i64 0)).setCell ⟨w.heap.size,3,none⟩ (.slice none 0 0)).setCell ⟨w.heap.size+1,0,none⟩ (.int .u8 (b:Nat))).setCell ⟨w.heap.size+1,1,none⟩ (.int .u64 (x0:Nat))).setCell ⟨w.heap.size+1,2,none⟩ (.int .u64 (x1:Nat))).setCell ⟨w.heap.size+1,3,none⟩ (.int .u64 (x2:Nat))).setCell ⟨w.heap.size+1,4,none⟩ (.int .u64 (x3:Nat))).setCell ⟨w.heap.size+1,5,none⟩ (.slice none 0 0)).setCell ⟨w.heap.size+1,6,none⟩ (.int .i64 0)).setCell ⟨w.heap.size+1,7,none⟩ (.int .i64 nx)).setCell ⟨w.heap.size+1,8,none⟩ (.int .i64 e)).drew _ _ from At.drew hC5);clear hA5 hC5;generalize (((((((((((((W4.setCell ⟨w.heap.size,0,none⟩ (.int .i64 8)).setCell ⟨w.heap.size,1,none⟩ (.int .i64 p)).setCell ⟨w.heap.size,2,none⟩ (.int .i64 0)).setCell ⟨w.heap.size,3,none⟩ (.slice none 0 0)).setCell ⟨w.heap.size+1,0,none⟩ (.int .u8 (b:Nat))).setCell ⟨w.heap.size+1,1,none⟩ (.int .u64 (x0:Nat))).setCell ⟨w.heap.size+1,2,none⟩ (.int .u64 (x1:Nat))).setCell ⟨w.heap.size+1,3,none⟩ (.int .u64 (x2:Nat))).setCell ⟨w.heap.size+1,4,none⟩ (.int .u64 (x3:Nat))).setCell ⟨w.heap.size+1,5,none⟩ (.slice none 0 0)).setCell ⟨w.heap.size+1,6,none⟩ (.int .i64 0)).setCell ⟨w.heap.size+1,7,none⟩ (.int .i64 nx)).setCell ⟨w.heap.size+1,8,none⟩ (.int .i64 e)).drew=W5 at *;clear c0 c1 c2 c3 c4 c5 c6 c7 c8 f0 f1 f2 f3 f4 f5 f6 f7 f8 hl t0 t1 t2 t3 t4 t5 t6 t7 t8 tl a0 a1 a2 a3 z0 z1 z2 z3 zl;obtain⟨⟨c0,c1,c2,c3,c4,c5,c6,c7,c8⟩,-,hl⟩:=At.nine hC5'.out;have a0:=hA5'.out.cell 0;have a1:=hA5'.out.cell 1;have a2:=hA5'.out.cell 2;have a3:=hA5'.out.cell 3;simp only[ak,am,au]at a0 a1 a2 a3;go_wp2_with fail
  have hB5:=aa (HB4.out.trans (hE5.out.below HB4.out.size (by simp)));refine ay (v:=.tuple #[.agg #[.int .i64 8,.int .i64 p,.int .i64 0,.slice none 0 0],gv b x0 x1 x2 x3 (.slice none 0 0) 0 nx e]) (by simp[results,results53,go_sem,a0,a1,a2,a3,c0,c1,c2,c3,c4,c5,c6,c7,c8]) rfl ?_;exact⟨8,p,0,none,0,0,_,rfl,hB5.out,b,x0,x1,x2,x3,none,0,0,0,nx,e,rfl,.inl hne⟩
 ·obtain⟨ad,cap,rfl⟩:=ey hro
  have HR3:=aa hro;clear hro;go_upto_region 3 with fail
  have HA4:=aa (HA3.out.alloc (j7 0 0 0 0 0 (.slice ad l.length cap) 0 (q:Nat) 0));have HC4:=aa (HC3.out.alloc (j7 0 0 0 0 0 (.slice ad l.length cap) 0 (q:Nat) 0));have HT4:=aa (At.new w3 (j7 0 0 0 0 0 (.slice ad l.length cap) 0 (q:Nat) 0));have HB4:=aa (HB3.out.alloc HB3.out.size (j7 0 0 0 0 0 (.slice ad l.length cap) 0 (q:Nat) 0));have HK4:=aa ((Kt.refl 100 w3).alloc (j7 0 0 0 0 0 (.slice ad l.length cap) 0 (q:Nat) 0));generalize w3.alloc (j7 0 0 0 0 0 (.slice ad l.length cap) 0 (q:Nat) 0)=W4 at *;have q1':w.heap.size≠w3.heap.size:=by have:=HA3.out.lt;omega
  have q2':w3.heap.size≠w.heap.size:=fun h=>q1' h.symm
  have q3':w.heap.size+1≠w3.heap.size:=by have:=HC3.out.lt;omega
  have q4':w3.heap.size≠w.heap.size+1:=fun h=>q3' h.symm
  generalize w3.heap.size=T at *;obtain⟨⟨c0,c1,c2,c3,c4,c5,c6,c7,c8⟩,⟨f0,f1,f2,f3,f4,f5,f6,f7,f8⟩,hl⟩:=At.nine (b:=0) (x0:=0) (x1:=0) (x2:=0) (x3:=0) HC4.out;obtain⟨⟨t0,t1,t2,t3,t4,t5,t6,t7,t8⟩,-,tl⟩:=At.nine HT4.out;have a0:=HA4.out.cell 0;have a1:=HA4.out.cell 1;have a2:=HA4.out.cell 2;have a3:=HA4.out.cell 3;have z0:=HA4.out.free 0;have z1:=HA4.out.free 1;have z2:=HA4.out.free 2;have z3:=HA4.out.free 3;have zl:=HA4.out.lt;simp only[ak,am,au]at a0 a1 a2 a3;obtain⟨hA5,hC5⟩:=xp (a0:=.int .i64 8) (a1:=.int .i64 p) (a2:=.int .i64 0) (a3:=.slice ad l.length cap) HA4.out HC4.out (Nat.succ_ne_self _).symm 0 0 0 0 0 (.slice ad l.length cap) 0 (q:Nat) 0;have hE5:Hid (Ex [w.heap.size,w.heap.size+1] W4 (((((((((((((W4.setCell ⟨w.heap.size,0,none⟩ (.int .i64 8)).setCell ⟨w.heap.size,1,none⟩ (.int .i64 p)).setCell ⟨w.heap.size,2,none⟩ (.int .i64 0)).setCell ⟨w.heap.size,3,none⟩ (.slice ad l.length cap)).setCell ⟨w.heap.size+1,0,none⟩ (.int .u8 0)).setCell ⟨w.heap.size+1,1,none⟩ (.int .u64 0)).setCell ⟨w.heap.size+1,2,none⟩ (.int .u64 0)).setCell ⟨w.heap.size+1,3,none⟩ (.int .u64 0)).setCell ⟨w.heap.size+1,4,none⟩ (.int .u64 0)).setCell ⟨w.heap.size+1,5,none⟩ (.slice ad l.length cap)).setCell ⟨w.heap.size+1,6,none⟩ (.int .i64 0)).setCell ⟨w.heap.size+1,7,none⟩ (.int .i64 (q:Nat))).setCell ⟨w.heap.size+1,8,none⟩ (.int .i64 0)).drew):=aa (xh W4 w.heap.size (w.heap.size+1) (.int .i64 8) (.int .i64 p) (.int .i64 0) (.slice ad l.length cap) 0 0 0 0 0 (.slice ad l.length cap) 0 (q:Nat) 0).drew;go_region;have hA5':=aa (show At (((((((((((((W4.setCell ⟨w.heap.size,0,none⟩ (.int .i64 8)).setCell ⟨w.heap.size,1,none⟩ (.int .i64 p)).setCell ⟨w.heap.size,2,none⟩ (.int .i64 0)).setCell ⟨w.heap.size,3,none⟩ (.slice ad l.length cap)).setCell ⟨w.heap.size+1,0,none⟩ (.int .u8 0)).setCell ⟨w.heap.size+1,1,none⟩ (.int .u64 0)).setCell ⟨w.heap.size+1,2,none⟩ (.int .u64 0)).setCell ⟨w.heap.size+1,3,none⟩ (.int .u64 0)).setCell ⟨w.heap.size+1,4,none⟩ (.int .u64 0)).setCell ⟨w.heap.size+1,5,none⟩ (.slice ad l.length cap)).setCell ⟨w.heap.size+1,6,none⟩ (.int .i64 0)).setCell ⟨w.heap.size+1,7,none⟩ (.int .i64 (q:Nat))).setCell ⟨w.heap.size+1,8,none⟩ (.int .i64 0)).drew _ _ from At.drew hA5);have hC5':=aa (show At (((((((((((((W4.setCell ⟨w.heap.size,0,none⟩ (.int .i64 8)).setCell ⟨w.heap.size,1,none⟩ (.int .i64 p)).setCell ⟨w.heap.size,2,none⟩ (.int .i64 0)).setCell ⟨w.heap.size,3,none⟩ (.slice ad l.length cap)).setCell ⟨w.heap.size+1,0,none⟩ (.int .u8 0)).setCell ⟨w.heap.size+1,1,none⟩ (.int .u64 0)).setCell ⟨w.heap.size+1,2,none⟩ (.int .u64 0)).setCell ⟨w.heap.size+1,3,none⟩ (.int .u64 0)).setCell ⟨w.heap.size+1,4,none⟩ (.int .u64 0)).setCell ⟨w.heap.size+1,5,none⟩ (.slice ad l.length cap)).setCell ⟨w.heap.size+1,6,none⟩ (.int .i64 0)).setCell ⟨w.heap.size+1,7,none⟩ (.int .i64 (q:Nat))).setCell ⟨w.heap.size+1,8,none⟩ (.int .i64 0)).drew _ _ from At.drew hC5);clear hA5 hC5;generalize (((((((((((((W4.setCell ⟨w.heap.size,0,none⟩ (.int .i64 8)).setCell ⟨w.heap.size,1,none⟩ (.int .i64 p)).setCell ⟨w.heap.size,2,none⟩ (.int .i64 0)).setCell ⟨w.heap.size,3,none⟩ (.slice ad l.length cap)).setCell ⟨w.heap.size+1,0,none⟩ (.int .u8 0)).setCell ⟨w.heap.size+1,1,none⟩ (.int .u64 0)).setCell ⟨w.heap.size+1,2,none⟩ (.int .u64 0)).setCell ⟨w.heap.size+1,3,none⟩ (.int .u64 0)).setCell ⟨w.heap.size+1,4,none⟩ (.int .u64 0)).setCell ⟨w.heap.size+1,5,none⟩ (.slice ad l.length cap)).setCell ⟨w.heap.size+1,6,none⟩ (.int .i64 0)).setCell ⟨w.heap.size+1,7,none⟩ (.int .i64 (q:Nat))).setCell ⟨w.heap.size+1,8,none⟩ (.int .i64 0)).drew=W5 at *;clear c0 c1 c2 c3 c4 c5 c6 c7 c8 f0 f1 f2 f3 f4 f5 f6 f7 f8 hl t0 t1 t2 t3 t4 t5 t6 t7 t8 tl a0 a1 a2 a3 z0 z1 z2 z3 zl;obtain⟨⟨c0,c1,c2,c3,c4,c5,c6,c7,c8⟩,-,hl⟩:=At.nine hC5'.out;have a0:=hA5'.out.cell 0;have a1:=hA5'.out.cell 1;have a2:=hA5'.out.cell 2;have a3:=hA5'.out.cell 3;simp only[ak,am,au]at a0 a1 a2 a3;go_wp2_with fail
  have hB5:=aa (HB4.out.trans (hE5.out.below HB4.out.size (by simp)));refine ay (v:=.tuple #[.agg #[.int .i64 8,.int .i64 p,.int .i64 0,.slice ad l.length cap],gv 0 0 0 0 0 (.slice ad l.length cap) 0 (q:Nat) 0]) (by simp[results,results53,go_sem,a0,a1,a2,a3,c0,c1,c2,c3,c4,c5,c6,c7,c8]) rfl ?_;exact⟨8,p,0,ad,l.length,cap,_,rfl,hB5.out,0,0,0,0,0,ad,l.length,cap,0,q,0,rfl,.inr ⟨_,q,rfl,rfl,.pat l q H34.out hP,⟨ad,cap,rfl,((ft.own HR3.out).keep HK4.out).keep (Kt.at2 hE5.out HA4.out HC4.out)⟩⟩⟩
end
section
set_option maxRecDepth 100000
set_option maxHeartbeats 8000000
open Go.RowKit Go.Shelf
theorem apn(s:ByteArray)(p:Nat)(hs:s.size<=1000)(hp:p<s.size)(w:World):
 Calls prog 53 #[.string s,.int .i64 (p:Nat)] w (agx s p w):=by
 have hsi:(s.size:Int)<=1000:=by omega
 have hpi:(p:Int)<s.size:=by omega
 have hb:s[p].toNat=tb s p:=ia s p hp;have hle:=jq s p;by_cases h34:tb s p=34
 ·exact apm s p hs hp h34 w
 ·go_enter func53,ntmps53
  have g:((tb s p:Int)==34)=false:=by rw[ax];omega
  have H34:=aa h34;clear h34;have hk:=aa fun w=>al5 (tb s p) w
  by_cases hk0:j3 (tb s p)=0
  ·rw[hk0]at hk
   go_wp2_with(go_at_call 98;refine(hk.out _).mono ?_;rintro e w1⟨rfl,rfl⟩)
   refine ay (v:=.tuple #[.agg #[.int .i64 0,.int .i64 0,.int .i64 0,.slice none 0 0],gv 0 0 0 0 0 (.slice none 0 0) 0 p 130]) (by simp[results,results53,go_sem]) rfl ?_;exact⟨0,0,0,none,0,0,_,rfl,(ae.alloc ac _).alloc (by simp) _,0,0,0,0,0,none,0,0,0,p,130,rfl,.inl (by decide)⟩
  ·have hkl:=ww (tb s p)
   obtain⟨K,hK⟩:∃K,K=j3 (tb s p):=⟨_,rfl⟩;rw[<-hK]at hk hk0 hkl;have HKK:=aa hK;clear hK;have z:((K:Int)==0)=false:=by rw[ax];omega
   by_cases hk6:(K:Int)<6
   ·go_wp2_with(go_at_call 98;refine(hk.out _).mono ?_;rintro e w1⟨rfl,rfl⟩)
    refine ay (v:=.tuple #[.agg #[.int .i64 K,.int .i64 p,.int .i64 0,.slice none 0 0],gv 0 0 0 0 0 (.slice none 0 0) 0 ((p+1:Nat):Int) 0]) (by simp[results,results53,go_sem]) rfl ?_;exact⟨K,p,0,none,0,0,_,rfl,(ae.alloc ac _).alloc (by simp) _,0,0,0,0,0,none,0,0,0,((p+1:Nat):Int),0,rfl,.inr ⟨_,p+1,rfl,rfl,.sign H34.out (by rw[<-HKK.out];exact hk0) (by rw[<-HKK.out];omega),⟨none,0,by rw[<-HKK.out];rfl,.nil _ _ _ _⟩⟩⟩
   ·have hnum:=aa fun w=>afd s (p+1) hs (by omega) w
    go_wp2_with(go_at_call 98;refine(hk.out _).mono ?_;rintro e w1⟨rfl,rfl⟩)
    have HA:=aa ((At.new w (.cells #[.int .i64 0,.int .i64 0,.int .i64 0,.slice none 0 0] 71)).alloc (yh 0 0));have HB:=aa (((aw w.heap.size w).alloc ac (.cells #[.int .i64 0,.int .i64 0,.int .i64 0,.slice none 0 0] 71)).alloc (by simp) (yh 0 0));have hC:=At.new (w.alloc (.cells #[.int .i64 0,.int .i64 0,.int .i64 0,.slice none 0 0] 71)) (yh 0 0);rw[bg]at hC;have HC:=aa hC;clear hC;generalize ((w.alloc (.cells #[.int .i64 0,.int .i64 0,.int .i64 0,.slice none 0 0] 71)).alloc (yh 0 0))=W2 at *;refine((show∀w,_ from hnum.out) _).mono ?_;rintro e w3⟨v,rfl,hb3,hg⟩;have HA3:=aa (HA.out.below hb3 HA.out.lt);have HC3:=aa (HC.out.below hb3 HC.out.lt);have HB3:=aa (HB.out.trans (hb3.mono HB.out.size));clear hb3;obtain⟨nx,e,rfl,hne⟩|⟨n,q,hN,rfl⟩:=hg
    ·go_upto_region 10 with fail
     have HA4:=aa (HA3.out.alloc (yh nx e));have HC4:=aa (HC3.out.alloc (yh nx e));have HT4:=aa (At.new w3 (yh nx e));have HB4:=aa (HB3.out.alloc HB3.out.size (yh nx e));generalize w3.alloc (yh nx e)=W4 at *;have q1':w.heap.size≠w3.heap.size:=by have:=HA3.out.lt;omega
     have q2':w3.heap.size≠w.heap.size:=fun h=>q1' h.symm
     have q3':w.heap.size+1≠w3.heap.size:=by have:=HC3.out.lt;omega
     have q4':w3.heap.size≠w.heap.size+1:=fun h=>q3' h.symm
     generalize w3.heap.size=T at *;obtain⟨⟨c0,c1,c2,c3,c4,c5,c6,c7,c8⟩,⟨f0,f1,f2,f3,f4,f5,f6,f7,f8⟩,hl⟩:=At.nine (b:=0) (x0:=0) (x1:=0) (x2:=0) (x3:=0) HC4.out;obtain⟨⟨t0,t1,t2,t3,t4,t5,t6,t7,t8⟩,-,tl⟩:=At.nine (b:=0) (x0:=0) (x1:=0) (x2:=0) (x3:=0) HT4.out;have a0:=HA4.out.cell 0;have a1:=HA4.out.cell 1;have a2:=HA4.out.cell 2;have a3:=HA4.out.cell 3;have z0:=HA4.out.free 0;have z1:=HA4.out.free 1;have z2:=HA4.out.free 2;have z3:=HA4.out.free 3;have zl:=HA4.out.lt;simp only[ak,am,au]at a0 a1 a2 a3;obtain⟨hA5,hC5⟩:=xp (a0:=.int .i64 K) (a1:=.int .i64 p) (a2:=.int .i64 0) (a3:=.slice none 0 0) HA4.out HC4.out (Nat.succ_ne_self _).symm 0 0 0 0 0 (.slice none 0 0) 0 nx e;have hE5:Hid (Ex [w.heap.size,w.heap.size+1] W4 (((((((((((((W4.setCell ⟨w.heap.size,0,none⟩ (.int .i64 K)).setCell ⟨w.heap.size,1,none⟩ (.int .i64 p)).setCell ⟨w.heap.size,2,none⟩ (.int .i64 0)).setCell ⟨w.heap.size,3,none⟩ (.slice none 0 0)).setCell ⟨w.heap.size+1,0,none⟩ (.int .u8 0)).setCell ⟨w.heap.size+1,1,none⟩ (.int .u64 0)).setCell ⟨w.heap.size+1,2,none⟩ (.int .u64 0)).setCell ⟨w.heap.size+1,3,none⟩ (.int .u64 0)).setCell ⟨w.heap.size+1,4,none⟩ (.int .u64 0)).setCell ⟨w.heap.size+1,5,none⟩ (.slice none 0 0)).setCell ⟨w.heap.size+1,6,none⟩ (.int .i64 0)).setCell ⟨w.heap.size+1,7,none⟩ (.int .i64 nx)).setCell ⟨w.heap.size+1,8,none⟩ (.int .i64 e)).drew):=aa (xh W4 w.heap.size (w.heap.size+1) (.int .i64 K) (.int .i64 p) (.int .i64 0) (.slice none 0 0) 0 0 0 0 0 (.slice none 0 0) 0 nx e).drew;go_region;have hA5':=aa (show At (((((((((((((W4.setCell ⟨w.heap.size,0,none⟩ (.int .i64 K)).setCell ⟨w.heap.size,1,none⟩ (.int .i64 p)).setCell ⟨w.heap.size,2,none⟩ (.int .i64 0)).setCell ⟨w.heap.size,3,none⟩ (.slice none 0 0)).setCell ⟨w.heap.size+1,0,none⟩ (.int .u8 0)).setCell ⟨w.heap.size+1,1,none⟩ (.int .u64 0)).setCell ⟨w.heap.size+1,2,none⟩ (.int .u64 0)).setCell ⟨w.heap.size+1,3,none⟩ (.int .u64 0)).setCell ⟨w.heap.size+1,4,none⟩ (.int .u64 0)).setCell ⟨w.heap.size+1,5,none⟩ (.slice none 0 0)).setCell ⟨w.heap.size+1,6,none⟩ (.int .i64 0)).setCell ⟨w.heap.size+1,7,none⟩ (.int .i64 nx)).setCell ⟨w.heap.size+1,8,none⟩ (.int .i64 e)).drew _ _ from At.drew hA5);have hC5':=aa (show At (((((((((((((W4.setCell ⟨w.heap.size,0,none⟩ (.int .i64 K)).setCell ⟨w.heap.size,1,none⟩ (.int .i64 p)).setCell ⟨w.heap.size,2,none⟩ (.int .i64 0)).setCell ⟨w.heap.size,3,none⟩ (.slice none 0 0)).setCell ⟨w.heap.size+1,0,none⟩ (.int .u8 0)).setCell ⟨w.heap.size+1,1,none⟩ (.int .u64 0)).setCell ⟨w.heap.size+1,2,none⟩ (.int .u64 0)).setCell ⟨w.heap.size+1,3,none⟩ (.int .u64 0)).setCell ⟨w.heap.size+1,4,none⟩ (.int .u64 0)).setCell ⟨w.heap.size+1,5,none⟩ (.slice none 0 0)).setCell ⟨w.heap.size+1,6,none⟩ (.int .i64 0)).setCell ⟨w.heap.size+1,7,none⟩ (.int .i64 nx)).setCell ⟨w.heap.size+1,8,none⟩ (.int .i64 e)).drew _ _ from At.drew hC5);clear hA5 hC5;generalize (((((((((((((W4.setCell ⟨w.heap.size,0,none⟩ (.int .i64 K)).setCell ⟨w.heap.size,1,none⟩ (.int .i64 p)).setCell ⟨w.heap.size,2,none⟩ (.int .i64 0)).setCell ⟨w.heap.size,3,none⟩ (.slice none 0 0)).setCell ⟨w.heap.size+1,0,none⟩ (.int .u8 0)).setCell ⟨w.heap.size+1,1,none⟩ (.int .u64 0)).setCell ⟨w.heap.size+1,2,none⟩ (.int .u64 0)).setCell ⟨w.heap.size+1,3,none⟩ (.int .u64 0)).setCell ⟨w.heap.size+1,4,none⟩ (.int .u64 0)).setCell ⟨w.heap.size+1,5,none⟩ (.slice none 0 0)).setCell ⟨w.heap.size+1,6,none⟩ (.int .i64 0)).setCell ⟨w.heap.size+1,7,none⟩ (.int .i64 nx)).setCell ⟨w.heap.size+1,8,none⟩ (.int .i64 e)).drew=W5 at *;clear c0 c1 c2 c3 c4 c5 c6 c7 c8 f0 f1 f2 f3 f4 f5 f6 f7 f8 hl t0 t1 t2 t3 t4 t5 t6 t7 t8 tl a0 a1 a2 a3 z0 z1 z2 z3 zl;obtain⟨⟨c0,c1,c2,c3,c4,c5,c6,c7,c8⟩,-,hl⟩:=At.nine hC5'.out;have a0:=hA5'.out.cell 0;have a1:=hA5'.out.cell 1;have a2:=hA5'.out.cell 2;have a3:=hA5'.out.cell 3;simp only[ak,am,au]at a0 a1 a2 a3;go_wp2_with fail
     have hB5:=aa (HB4.out.trans (hE5.out.below HB4.out.size (by simp)));refine ay (v:=.tuple #[.agg #[.int .i64 K,.int .i64 p,.int .i64 0,.slice none 0 0],gv 0 0 0 0 0 (.slice none 0 0) 0 nx e]) (by simp[results,results53,go_sem,a0,a1,a2,a3,c0,c1,c2,c3,c4,c5,c6,c7,c8]) rfl ?_;exact⟨K,p,0,none,0,0,_,rfl,hB5.out,0,0,0,0,0,none,0,0,0,nx,e,rfl,.inl hne⟩
    ·go_upto_region 10 with fail
     have HA4:=aa (HA3.out.alloc (.cells #[.int .u8 0,.int .u64 0,.int .u64 0,.int .u64 0,.int .u64 0,.slice none 0 0,.int .i64 (n:Nat),.int .i64 (q:Nat),.int .i64 0] 120));have HC4:=aa (HC3.out.alloc (.cells #[.int .u8 0,.int .u64 0,.int .u64 0,.int .u64 0,.int .u64 0,.slice none 0 0,.int .i64 (n:Nat),.int .i64 (q:Nat),.int .i64 0] 120));have HT4:=aa (At.new w3 (.cells #[.int .u8 0,.int .u64 0,.int .u64 0,.int .u64 0,.int .u64 0,.slice none 0 0,.int .i64 (n:Nat),.int .i64 (q:Nat),.int .i64 0] 120));have HB4:=aa (HB3.out.alloc HB3.out.size (.cells #[.int .u8 0,.int .u64 0,.int .u64 0,.int .u64 0,.int .u64 0,.slice none 0 0,.int .i64 (n:Nat),.int .i64 (q:Nat),.int .i64 0] 120));generalize w3.alloc (.cells #[.int .u8 0,.int .u64 0,.int .u64 0,.int .u64 0,.int .u64 0,.slice none 0 0,.int .i64 (n:Nat),.int .i64 (q:Nat),.int .i64 0] 120)=W4 at *;have q1':w.heap.size≠w3.heap.size:=by have:=HA3.out.lt;omega
     have q2':w3.heap.size≠w.heap.size:=fun h=>q1' h.symm
     have q3':w.heap.size+1≠w3.heap.size:=by have:=HC3.out.lt;omega
     have q4':w3.heap.size≠w.heap.size+1:=fun h=>q3' h.symm
     generalize w3.heap.size=T at *;obtain⟨⟨c0,c1,c2,c3,c4,c5,c6,c7,c8⟩,⟨f0,f1,f2,f3,f4,f5,f6,f7,f8⟩,hl⟩:=At.nine (b:=0) (x0:=0) (x1:=0) (x2:=0) (x3:=0) HC4.out;obtain⟨⟨t0,t1,t2,t3,t4,t5,t6,t7,t8⟩,-,tl⟩:=At.nine (b:=0) (x0:=0) (x1:=0) (x2:=0) (x3:=0) HT4.out;have a0:=HA4.out.cell 0;have a1:=HA4.out.cell 1;have a2:=HA4.out.cell 2;have a3:=HA4.out.cell 3;have z0:=HA4.out.free 0;have z1:=HA4.out.free 1;have z2:=HA4.out.free 2;have z3:=HA4.out.free 3;have zl:=HA4.out.lt;simp only[ak,am,au]at a0 a1 a2 a3;obtain⟨hA5,hC5⟩:=xp (a0:=.int .i64 K) (a1:=.int .i64 p) (a2:=.int .i64 (n:Nat)) (a3:=.slice none 0 0) HA4.out HC4.out (Nat.succ_ne_self _).symm 0 0 0 0 0 (.slice none 0 0) (n:Nat) (q:Nat) 0;have hE5:Hid (Ex [w.heap.size,w.heap.size+1] W4 (((((((((((((W4.setCell ⟨w.heap.size,0,none⟩ (.int .i64 K)).setCell ⟨w.heap.size,1,none⟩ (.int .i64 p)).setCell ⟨w.heap.size,2,none⟩ (.int .i64 (n:Nat))).setCell ⟨w.heap.size,3,none⟩ (.slice none 0 0)).setCell ⟨w.heap.size+1,0,none⟩ (.int .u8 0)).setCell ⟨w.heap.size+1,1,none⟩ (.int .u64 0)).setCell ⟨w.heap.size+1,2,none⟩ (.int .u64 0)).setCell ⟨w.heap.size+1,3,none⟩ (.int .u64 0)).setCell ⟨w.heap.size+1,4,none⟩ (.int .u64 0)).setCell ⟨w.heap.size+1,5,none⟩ (.slice none 0 0)).setCell ⟨w.heap.size+1,6,none⟩ (.int .i64 (n:Nat))).setCell ⟨w.heap.size+1,7,none⟩ (.int .i64 (q:Nat))).setCell ⟨w.heap.size+1,8,none⟩ (.int .i64 0)).drew):=aa (xh W4 w.heap.size (w.heap.size+1) (.int .i64 K) (.int .i64 p) (.int .i64 (n:Nat)) (.slice none 0 0) 0 0 0 0 0 (.slice none 0 0) (n:Nat) (q:Nat) 0).drew;go_region;have hA5':=aa (show At (((((((((((((W4.setCell ⟨w.heap.size,0,none⟩ (.int .i64 K)).setCell ⟨w.heap.size,1,none⟩ (.int .i64 p)).setCell ⟨w.heap.size,2,none⟩ (.int .i64 (n:Nat))).setCell ⟨w.heap.size,3,none⟩ (.slice none 0 0)).setCell ⟨w.heap.size+1,0,none⟩ (.int .u8 0)).setCell ⟨w.heap.size+1,1,none⟩ (.int .u64 0)).setCell ⟨w.heap.size+1,2,none⟩ (.int .u64 0)).setCell ⟨w.heap.size+1,3,none⟩ (.int .u64 0)).setCell ⟨w.heap.size+1,4,none⟩ (.int .u64 0)).setCell ⟨w.heap.size+1,5,none⟩ (.slice none 0 0)).setCell ⟨w.heap.size+1,6,none⟩ (.int .i64 (n:Nat))).setCell ⟨w.heap.size+1,7,none⟩ (.int .i64 (q:Nat))).setCell ⟨w.heap.size+1,8,none⟩ (.int .i64 0)).drew _ _ from At.drew hA5);have hC5':=aa (show At (((((((((((((W4.setCell ⟨w.heap.size,0,none⟩ (.int .i64 K)).setCell ⟨w.heap.size,1,none⟩ (.int .i64 p)).setCell ⟨w.heap.size,2,none⟩ (.int .i64 (n:Nat))).setCell ⟨w.heap.size,3,none⟩ (.slice none 0 0)).setCell ⟨w.heap.size+1,0,none⟩ (.int .u8 0)).setCell ⟨w.heap.size+1,1,none⟩ (.int .u64 0)).setCell ⟨w.heap.size+1,2,none⟩ (.int .u64 0)).setCell ⟨w.heap.size+1,3,none⟩ (.int .u64 0)).setCell ⟨w.heap.size+1,4,none⟩ (.int .u64 0)).setCell ⟨w.heap.size+1,5,none⟩ (.slice none 0 0)).setCell ⟨w.heap.size+1,6,none⟩ (.int .i64 (n:Nat))).setCell ⟨w.heap.size+1,7,none⟩ (.int .i64 (q:Nat))).setCell ⟨w.heap.size+1,8,none⟩ (.int .i64 0)).drew _ _ from At.drew hC5);clear hA5 hC5;generalize (((((((((((((W4.setCell ⟨w.heap.size,0,none⟩ (.int .i64 K)).setCell ⟨w.heap.size,1,none⟩ (.int .i64 p)).setCell ⟨w.heap.size,2,none⟩ (.int .i64 (n:Nat))).setCell ⟨w.heap.size,3,none⟩ (.slice none 0 0)).setCell ⟨w.heap.size+1,0,none⟩ (.int .u8 0)).setCell ⟨w.heap.size+1,1,none⟩ (.int .u64 0)).setCell ⟨w.heap.size+1,2,none⟩ (.int .u64 0)).setCell ⟨w.heap.size+1,3,none⟩ (.int .u64 0)).setCell ⟨w.heap.size+1,4,none⟩ (.int .u64 0)).setCell ⟨w.heap.size+1,5,none⟩ (.slice none 0 0)).setCell ⟨w.heap.size+1,6,none⟩ (.int .i64 (n:Nat))).setCell ⟨w.heap.size+1,7,none⟩ (.int .i64 (q:Nat))).setCell ⟨w.heap.size+1,8,none⟩ (.int .i64 0)).drew=W5 at *;clear c0 c1 c2 c3 c4 c5 c6 c7 c8 f0 f1 f2 f3 f4 f5 f6 f7 f8 hl t0 t1 t2 t3 t4 t5 t6 t7 t8 tl a0 a1 a2 a3 z0 z1 z2 z3 zl;obtain⟨⟨c0,c1,c2,c3,c4,c5,c6,c7,c8⟩,-,hl⟩:=At.nine hC5'.out;have a0:=hA5'.out.cell 0;have a1:=hA5'.out.cell 1;have a2:=hA5'.out.cell 2;have a3:=hA5'.out.cell 3;simp only[ak,am,au]at a0 a1 a2 a3;go_wp2_with fail
     have hB5:=aa (HB4.out.trans (hE5.out.below HB4.out.size (by simp)));refine ay (v:=.tuple #[.agg #[.int .i64 K,.int .i64 p,.int .i64 (n:Nat),.slice none 0 0],gv 0 0 0 0 0 (.slice none 0 0) (n:Nat) (q:Nat) 0]) (by simp[results,results53,go_sem,a0,a1,a2,a3,c0,c1,c2,c3,c4,c5,c6,c7,c8]) rfl ?_;exact⟨K,p,n,none,0,0,_,rfl,hB5.out,0,0,0,0,0,none,0,0,n,q,0,rfl,.inr ⟨_,q,rfl,rfl,.num n q H34.out (by rw[<-HKK.out];omega) hN,⟨none,0,by rw[<-HKK.out];rfl,.nil _ _ _ _⟩⟩⟩
end
end Go.Proofs.YtjfkmoinldlmaaaGreat
