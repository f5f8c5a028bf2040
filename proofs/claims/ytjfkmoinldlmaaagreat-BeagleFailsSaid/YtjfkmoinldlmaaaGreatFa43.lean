/- The walk of BeagleFails, part 43. Walk of the reference's query. The reference's Query at any tokens; walks of its trees, Walk, Depth at a tree. Walks of the reference's Walk and Depth at any tree, of its Parse at any text. -/
import Derived.Test.YtjfkmoinldlmaaaGreatFa41
import Derived.Test.YtjfkmoinldlmaaaGreatFa39
namespace Go.Proofs.YtjfkmoinldlmaaaGreat
open Go.Proofs.Tryz
section
set_option maxRecDepth 100000
set_option maxHeartbeats 8000000
open Go.RowKit Go.Shelf
theorem yp(ad:Option Addr)(cap:Nat)(toks:List gq)(hl:toks.length<=1000)(p:Nat)
 (ih0:∀w,il w 71 ad toks->Calls prog 54 #[.slice ad toks.length cap,.int .i64 (p:Nat)] w (oj w .part toks p))
 (ih:∀q,p<q->q<=toks.length->∀w,il w 71 ad toks->Calls prog 54 #[.slice ad toks.length cap,.int .i64 (q:Nat)] w (oj w .part toks q)) (w:World) (hT:il w 71 ad toks):
 Calls prog 24 #[.slice ad toks.length cap,.int .i64 (p:Nat)] w (oj w .query toks p):=by
 have q1:=aa fun j w' h=>jx ad cap toks hl j w' h
 have q2:=aa ih0;have q3:=aa ih;have HR0:=aa (At.new w (ie (.slice none 0 0) 0 false));have hB0:=(aw w.heap.size w).alloc ac (ie (.slice none 0 0) 0 false);have HT0:=aa (hT.below hB0);have HTw:=aa hT;have HB0:=aa hB0;have HSZ:=aa (show(w.alloc (ie (.slice none 0 0) 0 false)).heap.size=w.heap.size+1 by simp);clear hT hB0 ih0 ih;go_enter func24,ntmps24;go_wp2_with fail
 go_at_call 54;refine(q2.out _ HT0.out).mono ?_;rintro e w2⟨r2,ns2,vs2,nx2,bad2,rfl,hn2,hx2,ho2,hv2,hb2,ht2⟩;obtain⟨a2,c2,rfl⟩:=ey ho2;have H0:Hid (PLp w (w2.alloc (ie (.slice a2 ns2.length c2) nx2 bad2)) w.heap.size w2.heap.size .query .part .ors toks p (.slice a2 ns2.length c2) ns2 vs2 nx2 bad2):=aa (by
  have hb3:=(aw w2.heap.size w2).alloc ac (ie (.slice a2 ns2.length c2) nx2 bad2)
  have hB2:=HB0.out.trans (hb2.mono HB0.out.size)
  refine⟨(HR0.out.below hb2 HR0.out.lt).alloc _,At.new _ _,?_,gw hv2 (Kt.below hb3),hB2.trans (hb3.mono hB2.size),hn2,hx2,fun h=>?_⟩
  ·have:=fe ho2 hb3
   rwa[HSZ.out]at this
  ·obtain⟨T,hT,hP⟩:=ht2 h
   exact⟨T,hT,fun T' l hc=>.query _ T _ T' l hP hc⟩)
 have HRG:Hid (w.heap.size<w2.heap.size):=aa (by have:=hb2.size;have:=HSZ.out;omega);clear hn2 hx2 ho2 hv2 hb2 ht2;go_upto_region 2 with fail
 generalize w2.alloc (ie (.slice a2 ns2.length c2) nx2 bad2)=W2 at *;generalize hG:w2.heap.size=G at *;clear hG;go_loopw[] (fun wr=>∃r ns vs nx bad,PLp w wr w.heap.size G .query .part .ors toks p r ns vs nx bad) (fun wr=>toks.length+1-akt wr G 1)
 case atStart=>exact⟨_,_,_,_,_,H0.out⟩
 case round=>
  obtain⟨r,ns,vs,nx,bad,H⟩:=hrel;obtain⟨a,c,rfl⟩:=ey H.own;have HH:=aa H;have c0:=H.hR.cell 0;have c1:=H.hR.cell 1;have c2':=H.hR.cell 2;have f0:=H.hR.free 0;have f1:=H.hR.free 1;have f2:=H.hR.free 2;have rl:=H.hR.lt;have g0:=H.hG.cell 0;have g1:=H.hG.cell 1;have g2:=H.hG.cell 2;have y0:=H.hG.free 0;have y1:=H.hG.free 1;have y2:=H.hG.free 2;have gl:=H.hG.lt;have hnx:(nx:Int)<=1000:=by have:=H.lt;omega
  have hne:w.heap.size≠G:=by have:=HRG.out;omega
  have hne2:G≠w.heap.size:=fun h=>hne h.symm
  have HTr:Hid (il wr 71 ad toks):=aa (HTw.out.below H.bl);simp only[ak,am,au]at c0 c1 c2' g0 g1 g2;clear H;cases bad
  ·have hh:=aa (q1.out nx wr HTr.out)
   by_cases hk:ik toks nx=4
   ·obtain⟨u,huj,huk,hul,hud⟩:=jz hk (by decide)
    rw[hk]at hh;have hud':=aa hud;have huk':=aa huk;have hul':=aa hul;have q4:Hid (Calls prog 54 #[.slice ad toks.length cap,.int .i64 ((nx:Int)+1)] wr (oj wr .part toks (nx+1))):=aa (by have:=q3.out (nx+1) (by have:=HH.out.le;omega) hul wr HTr.out;rwa[Int.natCast_succ]at this);clear huj huk hud hk hul;go_wp2_with(go_at_call 55;(with_reducible refine hh.out.mono ?_);rintro e w4⟨rfl,rfl⟩)
    go_at_call 54;refine q4.out.mono ?_;rintro e w5⟨r5,ns5,vs5,nx5,bad5,rfl,hn5,hx5,ho5,hv5,hb5,ht5⟩;obtain⟨a5,c5,rfl⟩:=ey ho5;have hb6:=(aw w5.heap.size w5).alloc ac (ie (.slice a5 ns5.length c5) nx5 bad5);have hb46:=hb5.trans (hb6.mono hb5.size);have HG6:=aa (HH.out.hG.below hb46 HH.out.hG.lt);have HR6:=aa (HH.out.hR.below hb46 HH.out.hR.lt);have HH6:=aa (At.new w5 (ie (.slice a5 ns5.length c5) nx5 bad5));have HO6:=aa (fe HH.out.own hb46);have HO56:=aa (fe ho5 hb6);have HV6:=aa (gw HH.out.recs (Kt.below hb46));have HV56:=aa (gw hv5 (Kt.below hb6));have HB6:=aa (HH.out.bl.trans (hb46.mono HH.out.bl.size));have HLn:=aa hn5;have HLx:=aa hx5;have HLt:=aa ht5;have HGH:Hid (G<w5.heap.size):=aa (az HH.out.hG.lt hb5.size);have Hl6:=aa (show w5.heap.size<(w5.alloc (ie (.slice a5 ns5.length c5) nx5 bad5)).heap.size by simp);have hVl:=HH.out.recs.len (fun _ _ h=>h.len);have hVl5:=hv5.len (fun _ _ h=>h.len);have HVo:=aa (jy HH.out.recs jo);have HVo5:=aa (jy hv5 jo);have hns:ns.length<=1000:=by have:=HH.out.le;have:=HH.out.lt;omega
    have hns5:ns5.length<=1000:=by omega
    clear hn5 hx5 ho5 hv5 hb5 ht5 hb6 hb46 c0 c1 c2' f0 f1 f2 rl g0 g1 g2 y0 y1 y2 gl;go_upto_region 4 with fail
    generalize w5.alloc (ie (.slice a5 ns5.length c5) nx5 bad5)=W6 at *;generalize hH:w5.heap.size=H at *;clear hH;have g0:=HG6.out.cell 0;have k0:=HH6.out.cell 0;simp only[ak,am]at g0 k0;have HG7:Hid (At W6.drew G (ie (.slice a ns.length c) (nx:Nat) false)):=aa HG6.out;have HR7:Hid (At W6.drew w.heap.size (ie (.slice none 0 0) 0 false)):=aa HR6.out;have HH7:Hid (At W6.drew H (ie (.slice a5 ns5.length c5) (nx5:Nat) bad5)):=aa HH6.out;have HO7:Hid (W6.drew.ownsRow (w.heap.size+1) 81 4 (.slice a ns.length c) ns.length vs):=aa HO6.out;have HO57:Hid (W6.drew.ownsRow w4.heap.size 81 4 (.slice a5 ns5.length c5) ns5.length vs5):=aa HO56.out;have HV7:Hid (f9 (ju W6.drew) ns vs):=aa HV6.out;have HV57:Hid (f9 (ju W6.drew) ns5 vs5):=aa HV56.out;have HB7:Hid (Below w.heap.size w W6.drew):=aa HB6.out.drew;have Hl7:Hid (H<W6.drew.heap.size):=aa Hl6.out;refine wp_region_held_drew (S:=fun w'=>w'.cell? ⟨G,0,none⟩=some (.slice a ns.length c)) (by kernel_rfl) (show W6.drew.cell? ⟨G,0,none⟩=some (.slice a ns.length c)from g0) (fun hS=>?_);generalize W6.drew=W7 at *;clear g0 k0;refine tk 0 25 (.agg #[.int .i64 3,.int .i64 0,.slice none 0 0,.int .i64 0]) hS ?_;refine tk 2 27 (.pointer (some ⟨G,0,none⟩)) hS ?_;refine tk 3 28 (.slice a ns.length c) hS ?_;refine tk 5 30 (.pointer (some ⟨H,0,none⟩)) hS ?_;have SX:Hid (∀w',Below W7.heap.size W7 w'->w'.cell? ⟨G,0,none⟩=some (.slice a ns.length c)):=aa fun w' hb'=>(HG7.out.below hb' HG7.out.lt).cell 0
    have SH:Hid (∀w',Below W7.heap.size W7 w'->w'.cell? ⟨H,0,none⟩=some (.slice a5 ns5.length c5)):=aa fun w' hb'=>(HH7.out.below hb' HH7.out.lt).cell 0
    have hb8:=(aw W7.heap.size W7).alloc ac (fw 3 0 (.slice none 0 0) 0);have HB8:=aa hb8;have HOL:=aa (World.ownsRow_lit (base:=W7.heap.size) (e:=81) (size:=4) W7 #[.int .i64 ((3:Nat):Int),.int .i64 ((0:Nat):Int),.slice none 0 0,.int .i64 0] 1 ac (by unfold maxLen;omega) rfl);have HNw:=aa ((ft.own HO7.out).keep (Kt.below hb8)).news;have HNw5:=aa (ft.own HO57.out);have HZ:=aa hb8.size;clear hb8;refine wpAnyH_ready (rs:=[1,6]) (by kernel_rfl) (by simp) ?_;refine AllReadyH.cons rfl (fun Kc hK=>?_) (AllReadyH.cons rfl (fun Kc hK=>?_) AllReadyH.nil)
    ·go_simp
     refine hK.out _ _ (SX.out _ HB8.out) (fun hH=>?_);try simp only[Act.put,ag,ai,aj]
     clear hK Kc;refine wpAnyH_ready (rs:=[4,6]) (by kernel_rfl) (by simp) ?_;refine AllReadyH.cons (o:={dst:=some 29,op:=.call {callee:=.builtin .append,args:=#[.tmp 26,.tmp 28],argTypes:=#[29,29]},type:=29,pos:= "ref.go:180",after:=_,guard:=none}) rfl (fun Kc hK=>?_) (AllReadyH.cons rfl (fun Kc hK=>?_) AllReadyH.nil)
     ·refine ij j2 (by with_reducible rfl) (.tmp 26) (.tmp 28) (by with_reducible rfl) (by rfl) HOL.out (by rfl) HNw.out hVl HVo.out (by unfold maxLen;omega) (by omega) HZ.out ?_
      intro v8 w8 hown8 hb8' hk8 hg8 hv8;obtain⟨a8,c8,rfl⟩:=ey hown8;have HO8:=aa hown8;have HBx8:=aa (HB8.out.trans hb8');clear hown8 hb8' hk8 hg8 hv8;refine hK.out _ _ (SX.out _ HBx8.out) (fun hH=>?_);try simp only[Act.put,ag,ai,aj]
      clear hK Kc;refine mw 6 (fun Kc hK=>?_);have kk:=SH.out w8 (HBx8.out);have hlH:=az HH7.out.lt (HBx8.out).size;go_simp;refine hK.out _ _ (SX.out _ (HBx8.out)) (fun hH=>?_);clear kk hlH;try simp only[Act.put,ag,ai,aj]
      clear hK Kc;refine mw 7 (o:={dst:=some 32,op:=.call {callee:=.builtin .append,args:=#[.tmp 29,.tmp 31],argTypes:=#[29,29]},type:=29,pos:= "ref.go:180",after:=_,guard:=none}) (fun Kc hK=>?_);refine ij j2 (by with_reducible rfl) (.tmp 29) (.tmp 31) (by with_reducible rfl) (by rfl) HO8.out (by rfl) (HNw5.out.keep (Kt.below HBx8.out)).news hVl5 HVo5.out (by unfold maxLen;omega) (by omega) HBx8.out.size ?_;intro v9 w9 hown9 hb9' hk9 hg9 hv9;obtain⟨a9,c9,rfl⟩:=ey hown9;have HO9:=aa hown9;have HB9:=aa (HBx8.out.trans hb9');clear hown9 hb9' hk9 hg9 hv9;refine hK.out _ _ (SX.out _ HB9.out) (fun hH=>?_);try simp only[Act.put,ag,ai,aj]
      clear hK Kc;have HG9:=aa (HG7.out.below HB9.out HG7.out.lt);have HR9:=aa (HR7.out.below HB9.out HR7.out.lt);have HH9:=aa (HH7.out.below HB9.out HH7.out.lt);refine tk 8 33 (.pointer (some ⟨H,0,none⟩)) hH ?_;have k0:=HH9.out.cell 0;have k1:=HH9.out.cell 1;have k2:=HH9.out.cell 2;have x0:=HH9.out.free 0;have hlH:=HH9.out.lt;simp only[ak,am,au]at k0 k1 k2;have hHG:H≠G:=by have:=HGH.out;omega
      have hGH:G≠H:=fun h=>hHG h.symm
      have HGs:=aa (HG9.out.far (p:=⟨H,0,none⟩) hHG (.slice a9 (1+ns.length+ns5.length) c9));have HRs:=aa (HR9.out.far (p:=⟨H,0,none⟩) (by have:=HGH.out;have:=HRG.out;show H≠w.heap.size;omega) (.slice a9 (1+ns.length+ns5.length) c9));have hHs:=HH9.out.set 0 (.slice a9 (1+ns.length+ns5.length) c9);simp only[ag,ai]at hHs;have HHs:=aa hHs;have HOs:=aa (qk HO9.out ((Ex.refl [H] w9).set H 0 (.slice a9 (1+ns.length+ns5.length) c9) (by simp)) (by have:=Hl7.out;intro x hx;rw[cd.1 hx];exact .inl this));have HKs:=aa ((Kt.refl 100 w9).trans (Kt.set HH9.out 0 (.slice a9 (1+ns.length+ns5.length) c9)));have HBs:=aa ((HB7.out.trans (HB9.out.mono HB7.out.size)).setCell (p:=⟨H,0,none⟩) (by have:=HGH.out;have:=HRG.out;show w.heap.size<=H;omega) (.slice a9 (1+ns.length+ns5.length) c9));refine mw 9 (fun Kc hK=>?_);go_simp;refine hK.out _ _ (HGs.out.cell 0) (fun hH=>?_);try simp only[Act.put,ag,ai,aj]
      clear hK Kc k0 k1 k2 x0 hlH hHs;refine wpAnyH_done (by kernel_rfl) ?_ _;generalize w9.setCell ⟨H,0,none⟩ (.slice a9 (1+ns.length+ns5.length) c9)=Ws at *;have k0:=HHs.out.cell 0;have k1:=HHs.out.cell 1;have k2:=HHs.out.cell 2;have g0:=HGs.out.cell 0;have g1:=HGs.out.cell 1;have g2:=HGs.out.cell 2;have y0:=HGs.out.free 0;have y1:=HGs.out.free 1;have y2:=HGs.out.free 2;have gl:=HGs.out.lt;have kl:=HHs.out.lt;simp only[ak,am,au]at k0 k1 k2 g0 g1 g2;go_wp2_with fail
      have hGf:=(((HGs.out.set 0 (.slice a9 (1+ns.length+ns5.length) c9)).set 1 (.int .i64 (nx5:Nat))).set 2 (.bool bad5));simp only[ag,ai,aj]at hGf;have hEf:=(((Ex.refl [G] Ws).set G 0 (.slice a9 (1+ns.length+ns5.length) c9) (by simp)).set G 1 (.int .i64 (nx5:Nat)) (by simp)).set G 2 (.bool bad5) (by simp);have hVf:=((f9.cons (jv W7 3 0) (HV7.out.append HV57.out)).mono fun _ _ h=>((h.keep (Kt.below HB9.out)).keep HKs.out).keep (Kt.at1 hEf HGs.out));go_roundw
      case rel=>
       refine⟨.slice a9 (1+ns.length+ns5.length) c9,⟨3,0,[],0⟩::(ns++ns5),_,nx5,bad5,HRs.out.ex hEf (by simpa using hne),hGf,?_,hVf,HBs.out.trans (hEf.below HBs.out.size (by have:=HRG.out;simp;omega)),?_,HLx.out,fun hb=>?_⟩
       ·rw[show(⟨3,0,[],0⟩::(ns++ns5):List QN).length=1+ns.length+ns5.length by simp;omega]
        have:=nk HOs.out hEf (fun x hx cur=>by rw[cd.1 hx];exact At.no HGs.out (by decide) cur (0,0));rw[dc]at this;exact fx this (by have:=HB7.out.size;have:=HRG.out;have:=Hl7.out;have:=HGH.out;omega)
       ·have:=HLn.out
        have:=HH.out.le;simp;omega
       ·obtain⟨T,hT,hP⟩:=HH.out.cps rfl
        obtain⟨U,hU,hQ⟩:=HLt.out hb;exact⟨.or T U,by rw[hT,hU];rfl,fun T' l hc=>hP T' l (by rw[hud'.out];exact .orOn T u _ U _ T' l huk'.out hQ hc)⟩
      case measure=>rw[jw hGf,jw HH.out.hG];have:=HLn.out;have:=hul'.out;have:=HLx.out;omega
     ·have kk:=SH.out (W7.alloc (fw 3 0 (.slice none 0 0) 0)) (HB8.out)
      have hlH:=az HH7.out.lt (HB8.out).size;go_simp;refine hK.out _ _ (SX.out _ (HB8.out)) (fun hH=>?_);clear kk hlH;try simp only[Act.put,ag,ai,aj]
      clear hK Kc;refine mw 4 (o:={dst:=some 29,op:=.call {callee:=.builtin .append,args:=#[.tmp 26,.tmp 28],argTypes:=#[29,29]},type:=29,pos:= "ref.go:180",after:=_,guard:=none}) (fun Kc hK=>?_);refine ij j2 (by with_reducible rfl) (.tmp 26) (.tmp 28) (by with_reducible rfl) (by rfl) HOL.out (by rfl) HNw.out hVl HVo.out (by unfold maxLen;omega) (by omega) HZ.out ?_;intro v8 w8 hown8 hb8' hk8 hg8 hv8;obtain⟨a8,c8,rfl⟩:=ey hown8;have HO8:=aa hown8;have HBx8:=aa (HB8.out.trans hb8');clear hown8 hb8' hk8 hg8 hv8;refine hK.out _ _ (SX.out _ HBx8.out) (fun hH=>?_);try simp only[Act.put,ag,ai,aj]
      clear hK Kc;refine mw 7 (o:={dst:=some 32,op:=.call {callee:=.builtin .append,args:=#[.tmp 29,.tmp 31],argTypes:=#[29,29]},type:=29,pos:= "ref.go:180",after:=_,guard:=none}) (fun Kc hK=>?_);refine ij j2 (by with_reducible rfl) (.tmp 29) (.tmp 31) (by with_reducible rfl) (by rfl) HO8.out (by rfl) (HNw5.out.keep (Kt.below HBx8.out)).news hVl5 HVo5.out (by unfold maxLen;omega) (by omega) HBx8.out.size ?_;intro v9 w9 hown9 hb9' hk9 hg9 hv9;obtain⟨a9,c9,rfl⟩:=ey hown9;have HO9:=aa hown9;have HB9:=aa (HBx8.out.trans hb9');clear hown9 hb9' hk9 hg9 hv9;refine hK.out _ _ (SX.out _ HB9.out) (fun hH=>?_);try simp only[Act.put,ag,ai,aj]
      clear hK Kc;have HG9:=aa (HG7.out.below HB9.out HG7.out.lt);have HR9:=aa (HR7.out.below HB9.out HR7.out.lt);have HH9:=aa (HH7.out.below HB9.out HH7.out.lt);refine tk 8 33 (.pointer (some ⟨H,0,none⟩)) hH ?_;have k0:=HH9.out.cell 0;have k1:=HH9.out.cell 1;have k2:=HH9.out.cell 2;have x0:=HH9.out.free 0;have hlH:=HH9.out.lt;simp only[ak,am,au]at k0 k1 k2;have hHG:H≠G:=by have:=HGH.out;omega
      have hGH:G≠H:=fun h=>hHG h.symm
      have HGs:=aa (HG9.out.far (p:=⟨H,0,none⟩) hHG (.slice a9 (1+ns.length+ns5.length) c9));have HRs:=aa (HR9.out.far (p:=⟨H,0,none⟩) (by have:=HGH.out;have:=HRG.out;show H≠w.heap.size;omega) (.slice a9 (1+ns.length+ns5.length) c9));have hHs:=HH9.out.set 0 (.slice a9 (1+ns.length+ns5.length) c9);simp only[ag,ai]at hHs;have HHs:=aa hHs;have HOs:=aa (qk HO9.out ((Ex.refl [H] w9).set H 0 (.slice a9 (1+ns.length+ns5.length) c9) (by simp)) (by have:=Hl7.out;intro x hx;rw[cd.1 hx];exact .inl this));have HKs:=aa ((Kt.refl 100 w9).trans (Kt.set HH9.out 0 (.slice a9 (1+ns.length+ns5.length) c9)));have HBs:=aa ((HB7.out.trans (HB9.out.mono HB7.out.size)).setCell (p:=⟨H,0,none⟩) (by have:=HGH.out;have:=HRG.out;show w.heap.size<=H;omega) (.slice a9 (1+ns.length+ns5.length) c9));refine mw 9 (fun Kc hK=>?_);go_simp;refine hK.out _ _ (HGs.out.cell 0) (fun hH=>?_);try simp only[Act.put,ag,ai,aj]
      clear hK Kc k0 k1 k2 x0 hlH hHs;refine wpAnyH_done (by kernel_rfl) ?_ _;generalize w9.setCell ⟨H,0,none⟩ (.slice a9 (1+ns.length+ns5.length) c9)=Ws at *;have k0:=HHs.out.cell 0;have k1:=HHs.out.cell 1;have k2:=HHs.out.cell 2;have g0:=HGs.out.cell 0;have g1:=HGs.out.cell 1;have g2:=HGs.out.cell 2;have y0:=HGs.out.free 0;have y1:=HGs.out.free 1;have y2:=HGs.out.free 2;have gl:=HGs.out.lt;have kl:=HHs.out.lt;simp only[ak,am,au]at k0 k1 k2 g0 g1 g2;go_wp2_with fail
      have hGf:=(((HGs.out.set 0 (.slice a9 (1+ns.length+ns5.length) c9)).set 1 (.int .i64 (nx5:Nat))).set 2 (.bool bad5));simp only[ag,ai,aj]at hGf;have hEf:=(((Ex.refl [G] Ws).set G 0 (.slice a9 (1+ns.length+ns5.length) c9) (by simp)).set G 1 (.int .i64 (nx5:Nat)) (by simp)).set G 2 (.bool bad5) (by simp);have hVf:=((f9.cons (jv W7 3 0) (HV7.out.append HV57.out)).mono fun _ _ h=>((h.keep (Kt.below HB9.out)).keep HKs.out).keep (Kt.at1 hEf HGs.out));go_roundw
      case rel=>
       refine⟨.slice a9 (1+ns.length+ns5.length) c9,⟨3,0,[],0⟩::(ns++ns5),_,nx5,bad5,HRs.out.ex hEf (by simpa using hne),hGf,?_,hVf,HBs.out.trans (hEf.below HBs.out.size (by have:=HRG.out;simp;omega)),?_,HLx.out,fun hb=>?_⟩
       ·rw[show(⟨3,0,[],0⟩::(ns++ns5):List QN).length=1+ns.length+ns5.length by simp;omega]
        have:=nk HOs.out hEf (fun x hx cur=>by rw[cd.1 hx];exact At.no HGs.out (by decide) cur (0,0));rw[dc]at this;exact fx this (by have:=HB7.out.size;have:=HRG.out;have:=Hl7.out;have:=HGH.out;omega)
       ·have:=HLn.out
        have:=HH.out.le;simp;omega
       ·obtain⟨T,hT,hP⟩:=HH.out.cps rfl
        obtain⟨U,hU,hQ⟩:=HLt.out hb;exact⟨.or T U,by rw[hT,hU];rfl,fun T' l hc=>hP T' l (by rw[hud'.out];exact .orOn T u _ U _ T' l huk'.out hQ hc)⟩
      case measure=>rw[jw hGf,jw HH.out.hG];have:=HLn.out;have:=hul'.out;have:=HLx.out;omega
    ·have kk:=SH.out W7 (aw W7.heap.size W7)
     have hlH:=az HH7.out.lt (aw W7.heap.size W7).size;go_simp;refine hK.out _ _ (SX.out _ (aw W7.heap.size W7)) (fun hH=>?_);clear kk hlH;try simp only[Act.put,ag,ai,aj]
     clear hK Kc;refine mw 1 (fun Kc hK=>?_);go_simp;refine hK.out _ _ (SX.out _ HB8.out) (fun hH=>?_);try simp only[Act.put,ag,ai,aj]
     clear hK Kc;refine mw 4 (o:={dst:=some 29,op:=.call {callee:=.builtin .append,args:=#[.tmp 26,.tmp 28],argTypes:=#[29,29]},type:=29,pos:= "ref.go:180",after:=_,guard:=none}) (fun Kc hK=>?_);refine ij j2 (by with_reducible rfl) (.tmp 26) (.tmp 28) (by with_reducible rfl) (by rfl) HOL.out (by rfl) HNw.out hVl HVo.out (by unfold maxLen;omega) (by omega) HZ.out ?_;intro v8 w8 hown8 hb8' hk8 hg8 hv8;obtain⟨a8,c8,rfl⟩:=ey hown8;have HO8:=aa hown8;have HBx8:=aa (HB8.out.trans hb8');clear hown8 hb8' hk8 hg8 hv8;refine hK.out _ _ (SX.out _ HBx8.out) (fun hH=>?_);try simp only[Act.put,ag,ai,aj]
     clear hK Kc;refine mw 7 (o:={dst:=some 32,op:=.call {callee:=.builtin .append,args:=#[.tmp 29,.tmp 31],argTypes:=#[29,29]},type:=29,pos:= "ref.go:180",after:=_,guard:=none}) (fun Kc hK=>?_);refine ij j2 (by with_reducible rfl) (.tmp 29) (.tmp 31) (by with_reducible rfl) (by rfl) HO8.out (by rfl) (HNw5.out.keep (Kt.below HBx8.out)).news hVl5 HVo5.out (by unfold maxLen;omega) (by omega) HBx8.out.size ?_;intro v9 w9 hown9 hb9' hk9 hg9 hv9;obtain⟨a9,c9,rfl⟩:=ey hown9;have HO9:=aa hown9;have HB9:=aa (HBx8.out.trans hb9');clear hown9 hb9' hk9 hg9 hv9;refine hK.out _ _ (SX.out _ HB9.out) (fun hH=>?_);try simp only[Act.put,ag,ai,aj]
     clear hK Kc;have HG9:=aa (HG7.out.below HB9.out HG7.out.lt);have HR9:=aa (HR7.out.below HB9.out HR7.out.lt);have HH9:=aa (HH7.out.below HB9.out HH7.out.lt);refine tk 8 33 (.pointer (some ⟨H,0,none⟩)) hH ?_;have k0:=HH9.out.cell 0;have k1:=HH9.out.cell 1;have k2:=HH9.out.cell 2;have x0:=HH9.out.free 0;have hlH:=HH9.out.lt;simp only[ak,am,au]at k0 k1 k2;have hHG:H≠G:=by have:=HGH.out;omega
     have hGH:G≠H:=fun h=>hHG h.symm
     have HGs:=aa (HG9.out.far (p:=⟨H,0,none⟩) hHG (.slice a9 (1+ns.length+ns5.length) c9));have HRs:=aa (HR9.out.far (p:=⟨H,0,none⟩) (by have:=HGH.out;have:=HRG.out;show H≠w.heap.size;omega) (.slice a9 (1+ns.length+ns5.length) c9));have hHs:=HH9.out.set 0 (.slice a9 (1+ns.length+ns5.length) c9);simp only[ag,ai]at hHs;have HHs:=aa hHs;have HOs:=aa (qk HO9.out ((Ex.refl [H] w9).set H 0 (.slice a9 (1+ns.length+ns5.length) c9) (by simp)) (by have:=Hl7.out;intro x hx;rw[cd.1 hx];exact .inl this));have HKs:=aa ((Kt.refl 100 w9).trans (Kt.set HH9.out 0 (.slice a9 (1+ns.length+ns5.length) c9)));have HBs:=aa ((HB7.out.trans (HB9.out.mono HB7.out.size)).setCell (p:=⟨H,0,none⟩) (by have:=HGH.out;have:=HRG.out;show w.heap.size<=H;omega) (.slice a9 (1+ns.length+ns5.length) c9));refine mw 9 (fun Kc hK=>?_);go_simp;refine hK.out _ _ (HGs.out.cell 0) (fun hH=>?_);try simp only[Act.put,ag,ai,aj]
     clear hK Kc k0 k1 k2 x0 hlH hHs;refine wpAnyH_done (by kernel_rfl) ?_ _;generalize w9.setCell ⟨H,0,none⟩ (.slice a9 (1+ns.length+ns5.length) c9)=Ws at *;have k0:=HHs.out.cell 0;have k1:=HHs.out.cell 1;have k2:=HHs.out.cell 2;have g0:=HGs.out.cell 0;have g1:=HGs.out.cell 1;have g2:=HGs.out.cell 2;have y0:=HGs.out.free 0;have y1:=HGs.out.free 1;have y2:=HGs.out.free 2;have gl:=HGs.out.lt;have kl:=HHs.out.lt;simp only[ak,am,au]at k0 k1 k2 g0 g1 g2;go_wp2_with fail
     have hGf:=(((HGs.out.set 0 (.slice a9 (1+ns.length+ns5.length) c9)).set 1 (.int .i64 (nx5:Nat))).set 2 (.bool bad5));simp only[ag,ai,aj]at hGf;have hEf:=(((Ex.refl [G] Ws).set G 0 (.slice a9 (1+ns.length+ns5.length) c9) (by simp)).set G 1 (.int .i64 (nx5:Nat)) (by simp)).set G 2 (.bool bad5) (by simp);have hVf:=((f9.cons (jv W7 3 0) (HV7.out.append HV57.out)).mono fun _ _ h=>((h.keep (Kt.below HB9.out)).keep HKs.out).keep (Kt.at1 hEf HGs.out));go_roundw
     case rel=>
      refine⟨.slice a9 (1+ns.length+ns5.length) c9,⟨3,0,[],0⟩::(ns++ns5),_,nx5,bad5,HRs.out.ex hEf (by simpa using hne),hGf,?_,hVf,HBs.out.trans (hEf.below HBs.out.size (by have:=HRG.out;simp;omega)),?_,HLx.out,fun hb=>?_⟩
      ·rw[show(⟨3,0,[],0⟩::(ns++ns5):List QN).length=1+ns.length+ns5.length by simp;omega]
       have:=nk HOs.out hEf (fun x hx cur=>by rw[cd.1 hx];exact At.no HGs.out (by decide) cur (0,0));rw[dc]at this;exact fx this (by have:=HB7.out.size;have:=HRG.out;have:=Hl7.out;have:=HGH.out;omega)
      ·have:=HLn.out
       have:=HH.out.le;simp;omega
      ·obtain⟨T,hT,hP⟩:=HH.out.cps rfl
       obtain⟨U,hU,hQ⟩:=HLt.out hb;exact⟨.or T U,by rw[hT,hU];rfl,fun T' l hc=>hP T' l (by rw[hud'.out];exact .orOn T u _ U _ T' l huk'.out hQ hc)⟩
     case measure=>rw[jw hGf,jw HH.out.hG];have:=HLn.out;have:=hul'.out;have:=HLx.out;omega
   ·obtain⟨K,hK⟩:∃K,K=ik toks nx:=⟨_,rfl⟩
    rw[<-hK]at hh;have hKn:((K:Int)==4)=false:=by rw[ax];omega
    have hk':=aa hk;clear hK hk;go_wp2_with(go_at_call 55;(with_reducible refine hh.out.mono ?_);rintro e w4⟨rfl,rfl⟩)
    refine ay (v:=.agg #[.slice a ns.length c,.int .i64 (nx:Nat),.bool false]) (by simp[results,results24,go_sem, *]) rfl ?_;refine n7 HH.out.hR ac (Nat.lt_succ_self _) HH.out.le HH.out.lt HH.out.own HH.out.recs HH.out.bl (fun h=>?_);obtain⟨T,hT,hP⟩:=HH.out.cps h;exact⟨T,hT,hP T _ (.orEnd T _ (vz hk'.out))⟩
  ·go_wp2_with fail
   refine ay (v:=.agg #[.slice a ns.length c,.int .i64 (nx:Nat),.bool true]) (by simp[results,results24,go_sem, *]) rfl ?_;exact n7 HH.out.hR ac (Nat.lt_succ_self _) HH.out.le HH.out.lt HH.out.own HH.out.recs HH.out.bl (fun h=>by cases h)
end
section
set_option maxRecDepth 100000
set_option maxHeartbeats 4000000
open Go.RowKit Go.Shelf
theorem ahm(ad:Option Addr)(cap:Nat)(toks:List gq)(hl:toks.length<=1000):∀(f p:Nat),p<=toks.length->toks.length-p<=f→
 (∀w,il w 71 ad toks->Calls prog 100 #[.slice ad toks.length cap,.int .i64 (p:Nat)] w (oj w .item toks p))∧
 (∀w,il w 71 ad toks->Calls prog 54 #[.slice ad toks.length cap,.int .i64 (p:Nat)] w (oj w .part toks p))∧
 (∀w,il w 71 ad toks->Calls prog 24 #[.slice ad toks.length cap,.int .i64 (p:Nat)] w (oj w .query toks p)):=by
 intro f;induction f with
 |zero=>
  intro p hp hf;have h1:=fun w hT=>aar ad cap toks hl p hp (fun h=>absurd h (by omega)) (fun h=>absurd h (by omega)) w hT
  have h2:=fun w hT=>aas ad cap toks hl p h1 (fun q h h'=>absurd h (by omega)) w hT
  exact⟨h1,h2,fun w hT=>yp ad cap toks hl p h2 (fun q h h'=>absurd h (by omega)) w hT⟩
 |succ f ih=>
  intro p hp hf;have h1:=fun w hT=>aar ad cap toks hl p hp (fun h=>(ih (p+1) h (by omega)).1) (fun h=>(ih (p+1) h (by omega)).2.2) w hT
  have h2:=fun w hT=>aas ad cap toks hl p h1 (fun q h h'=>(ih q h' (by omega)).1) w hT
  exact⟨h1,h2,fun w hT=>yp ad cap toks hl p h2 (fun q h h'=>(ih q h' (by omega)).2.1) w hT⟩
theorem ahj(ad:Option Addr)(cap:Nat)(toks:List gq)(hl:toks.length<=1000)(w:World)(hT:il w 71 ad toks):
 Calls prog 24 #[.slice ad toks.length cap,.int .i64 0] w (oj w .query toks 0):=(ahm ad cap toks hl toks.length 0 (cx _) (Nat.sub_le _ _)).2.2 w hT
theorem vo(k:Nat)(hk:1<=k/\k<=5)(w:World):
 Calls prog 101 #[.int .i64 (k:Nat)] w fun e w'=>e=.returned (.int .i64 (ar k:Nat))/\w'=w:=by
 obtain⟨h1,h2⟩:=hk;have h:k=1\/k=2\/k=3\/k=4\/k=5:=by omega
 clear h1 h2;rcases h with rfl|rfl|rfl|rfl|rfl
 all_goals(go_enter func101,ntmps101)
 all_goals(go_wp2_with fail)
 all_goals go_ret
 all_goals exact⟨rfl,rfl⟩
theorem rwalk0(ns:List QN)(hl:ns.length<=2000)(ad:Option Addr)(cap p:Nat)(x:QN)(hx:ns[p]?=some x)(hk:x.kind=1)(w:World)(hN:gd w ad ns):
 Calls prog 56 #[.slice ad ns.length cap,.int .i64 (p:Nat)] w fun e w'=>e=.returned (.tuple #[.int .i64 ((p+1:Nat):Int),.int .i64 1])/\w'=w:=by
 have h1:=aa (vo x.kind (by rw[hk];decide) w);obtain⟨b,o,pa,pc,rfl,hb,c0,-,-,-,-⟩:=hN.at hx;have hpl:p<ns.length:=(cy.1 hx).1;have hpi:(p:Int)<ns.length:=by omega
 have hli:(ns.length:Int)<=2000:=by omega
 rw[hk]at h1 c0;clear hN hx;go_enter func56,ntmps56;go_wp2_with(go_at_call 101;refine h1.out.mono ?_;rintro e w1⟨rfl,rfl⟩)
 refine du 1 ?_;rw[cj];go_wp2_with(go_at_call 101;refine h1.out.mono ?_;rintro e w1⟨rfl,rfl⟩)
 refine ay (v:=.tuple #[.int .i64 ((p:Int)+1),.int .i64 1]) (by first|rfl|simp[results,results56,go_sem]) rfl ⟨by simp,rfl⟩
theorem ape(ns:List QN)(hl:ns.length<=2000)(ad:Option Addr)(cap p:Nat)(x:QN)(hx:ns[p]?=some x)(hk:x.kind=4\/x.kind=5)(q d:Nat)(hd:1<=d)(hd2:d<=2000)(hq:q<=2000)(w:World)(hN:gd w ad ns)
 (h2:Calls prog 56 #[.slice ad ns.length cap,.int .i64 ((p+1:Nat):Int)] w fun e w'=>e=.returned (.tuple #[.int .i64 (q:Nat),.int .i64 (d:Nat)])/\w'=w):
 Calls prog 56 #[.slice ad ns.length cap,.int .i64 (p:Nat)] w fun e w'=>e=.returned (.tuple #[.int .i64 (q:Nat),.int .i64 ((d+1:Nat):Int)])/\w'=w:=by
 have h1:=aa (vo x.kind (by rcases hk with h|h<;>rw[h]<;>decide) w);have ha:ar x.kind=1:=by rcases hk with h|h<;>rw[h]<;>rfl
 obtain⟨b,o,pa,pc,rfl,hb,c0,-,-,-,-⟩:=hN.at hx;have hpl:p<ns.length:=(cy.1 hx).1;have hpi:(p:Int)<ns.length:=by omega
 have hli:(ns.length:Int)<=2000:=by omega
 rw[ha]at h1;rw[Int.natCast_succ]at h2;have H2:=aa h2;have hdi:(0:Int)<d:=by omega
 have hd2i:(d:Int)<=2000:=by omega
 have hq0:¬((q:Int)<0):=by omega
 generalize x.kind=K at *;clear hN hx h2 hk ha;go_enter func56,ntmps56;go_wp2_with(go_at_call 101;refine h1.out.mono ?_;rintro e w1⟨rfl,rfl⟩)
 refine du 2 ?_;rw[cj];go_wp2_with(first|(go_at_call 101;refine h1.out.mono ?_;rintro e w1⟨rfl,rfl⟩)|(go_at_call 56;refine H2.out.mono ?_;rintro e w2⟨rfl,rfl⟩))
 rw[cj];go_wp2_with(go_at_call 101;refine h1.out.mono ?_;rintro e w1⟨rfl,rfl⟩)
 refine ay (v:=.tuple #[.int .i64 (q:Nat),.int .i64 ((d:Int)+1)]) (by first|rfl|simp[results,results56,go_sem]) rfl ⟨by simp,rfl⟩
theorem apd(ns:List QN)(hl:ns.length<=2000)(ad:Option Addr)(cap p:Nat)(x:QN)(hx:ns[p]?=some x)(hk:x.kind=2\/x.kind=3)(q d r f:Nat)(hd:1<=d)(hd2:d<=2000)(hq:q<=2000)(hf2:f<=2000)(hr:r<=2000)(w:World)(hN:gd w ad ns)
 (h2:Calls prog 56 #[.slice ad ns.length cap,.int .i64 ((p+1:Nat):Int)] w fun e w'=>e=.returned (.tuple #[.int .i64 (q:Nat),.int .i64 (d:Nat)])/\w'=w)
 (h3:Calls prog 56 #[.slice ad ns.length cap,.int .i64 (q:Nat)] w fun e w'=>e=.returned (.tuple #[.int .i64 (r:Nat),.int .i64 (f:Nat)])/\w'=w):
 Calls prog 56 #[.slice ad ns.length cap,.int .i64 (p:Nat)] w fun e w'=>e=.returned (.tuple #[.int .i64 (r:Nat),.int .i64 ((max d f+1:Nat):Int)])/\w'=w:=by
 have h1:=aa (vo x.kind (by rcases hk with h|h<;>rw[h]<;>decide) w);have ha:ar x.kind=2:=by rcases hk with h|h<;>rw[h]<;>rfl
 obtain⟨b,o,pa,pc,rfl,hb,c0,-,-,-,-⟩:=hN.at hx;have hpl:p<ns.length:=(cy.1 hx).1;have hpi:(p:Int)<ns.length:=by omega
 have hli:(ns.length:Int)<=2000:=by omega
 rw[ha]at h1;rw[Int.natCast_succ]at h2;have H2:=aa h2;have H3:=aa h3;have hdi:(0:Int)<d:=by omega
 have hd2i:(d:Int)<=2000:=by omega
 have hf2i:(f:Int)<=2000:=by omega
 have hq0:¬((q:Int)<0):=by omega
 have hr0:¬((r:Int)<0):=by omega
 generalize x.kind=K at *;obtain⟨M,hM⟩:∃M,M=max d f:=⟨_,rfl⟩;rw[<-hM];have HM:=aa hM;clear hM;clear hN hx h2 h3 hk ha;go_enter func56,ntmps56;go_wp2_with(go_at_call 101;refine h1.out.mono ?_;rintro e w1⟨rfl,rfl⟩)
 refine du 3 ?_;rw[cj];go_wp2_with(first|(go_at_call 101;refine h1.out.mono ?_;rintro e w1⟨rfl,rfl⟩)|(go_at_call 56;(with_reducible refine H2.out.mono ?_);rintro e w2⟨rfl,rfl⟩))
 rw[cj];by_cases hlt:(d:Int)<f
 ·have hm:=aa (show M=f by have:=HM.out;omega)
  go_wp2_with(first|(go_at_call 101;refine h1.out.mono ?_;rintro e w1⟨rfl,rfl⟩)|(go_at_call 56;(with_reducible refine H3.out.mono ?_);rintro e w2⟨rfl,rfl⟩))
  rw[cj];go_wp2_with(go_at_call 101;refine h1.out.mono ?_;rintro e w1⟨rfl,rfl⟩)
  refine ay (v:=.tuple #[.int .i64 (r:Nat),.int .i64 ((f:Int)+1)]) (by first|rfl|simp[results,results56,go_sem]) rfl ⟨by rw[hm.out];simp,rfl⟩
 ·have hm:=aa (show M=d by have:=HM.out;omega)
  go_wp2_with(first|(go_at_call 101;refine h1.out.mono ?_;rintro e w1⟨rfl,rfl⟩)|(go_at_call 56;(with_reducible refine H3.out.mono ?_);rintro e w2⟨rfl,rfl⟩))
  rw[cj];go_wp2_with(go_at_call 101;refine h1.out.mono ?_;rintro e w1⟨rfl,rfl⟩)
  refine ay (v:=.tuple #[.int .i64 (r:Nat),.int .i64 ((d:Int)+1)]) (by first|rfl|simp[results,results56,go_sem]) rfl ⟨by rw[hm.out];simp,rfl⟩
end
section
set_option maxRecDepth 100000
set_option maxHeartbeats 4000000
open Go.RowKit Go.Shelf
theorem rn{α:Type}{l:List α}{p:Nat}{x:α}{r:List α}(h:l.drop p=x::r):l[p]?=some x/\l.drop (p+1)=r:=by
 have h1:l[p]?=some x:=by
  have:=congrArg List.head? h;simpa using this
 refine⟨h1,?_⟩;have:=congrArg List.tail h;simpa[List.tail_drop]using this
theorem alt(ns:List QN)(hl:ns.length<=2000)(ad:Option Addr)(cap:Nat)(w:World)(hN:gd w ad ns):∀(T:QT)(p:Nat)(s:List QN),ns.drop p=ew T++s→
 Calls prog 56 #[.slice ad ns.length cap,.int .i64 (p:Nat)] w fun e w'=>e=.returned (.tuple #[.int .i64 ((p+(ew T).length:Nat):Int),.int .i64 (jt T:Nat)])/\w'=w:=by
 intro T;have hlen:∀p s(T:QT),ns.drop p=ew T++s->p+(ew T).length<=ns.length:=fun p s T h=>by
  have:=congrArg List.length h;have:=qc T;simp at *;omega
 have hdep:=fun T:QT=>xj T
 induction T with
 |find e k=>
  intro p s h;exact rwalk0 ns hl ad cap p _ (rn h).1 rfl w hN
 |and a b iha ihb=>
  intro p s h;have hL:=hlen p s _ h;simp only[ew,dk,dc]at h;obtain⟨h1,h2⟩:=rn h;have h3:ns.drop (p+1+(ew a).length)=ew b++s:=by rw[<-List.drop_drop,h2,List.drop_left]
  have:=hdep a;have:=hdep b;simp only[ew,bz,bd]at hL;have r:=apd ns hl ad cap p _ h1 (.inl rfl) (p+1+(ew a).length) (jt a) (p+1+(ew a).length+(ew b).length) (jt b) (rp a) (by omega) (by omega) (by omega) (by omega) w hN (iha (p+1) _ h2) (ihb _ _ h3);have e:p+(ew (.and a b)).length=p+1+(ew a).length+(ew b).length:=by simp[ew];omega
  rw[e];exact r
 |or a b iha ihb=>
  intro p s h;have hL:=hlen p s _ h;simp only[ew,dk,dc]at h;obtain⟨h1,h2⟩:=rn h;have h3:ns.drop (p+1+(ew a).length)=ew b++s:=by rw[<-List.drop_drop,h2,List.drop_left]
  have:=hdep a;have:=hdep b;simp only[ew,bz,bd]at hL;have r:=apd ns hl ad cap p _ h1 (.inr rfl) (p+1+(ew a).length) (jt a) (p+1+(ew a).length+(ew b).length) (jt b) (rp a) (by omega) (by omega) (by omega) (by omega) w hN (iha (p+1) _ h2) (ihb _ _ h3);have e:p+(ew (.or a b)).length=p+1+(ew a).length+(ew b).length:=by simp[ew];omega
  rw[e];exact r
 |not a ih=>
  intro p s h;have hL:=hlen p s _ h;simp only[ew,dk]at h;obtain⟨h1,h2⟩:=rn h;have:=hdep a;simp only[ew,bz]at hL;have r:=ape ns hl ad cap p _ h1 (.inl rfl) (p+1+(ew a).length) (jt a) (rp a) (by omega) (by omega) w hN (ih (p+1) _ h2);have e:p+(ew (.not a)).length=p+1+(ew a).length:=by simp[ew];omega
  rw[e];exact r
 |shift m a ih=>
  intro p s h;have hL:=hlen p s _ h;simp only[ew,dk]at h;obtain⟨h1,h2⟩:=rn h;have:=hdep a;simp only[ew,bz]at hL;have r:=ape ns hl ad cap p _ h1 (.inr rfl) (p+1+(ew a).length) (jt a) (rp a) (by omega) (by omega) w hN (ih (p+1) _ h2);have e:p+(ew (.shift m a)).length=p+1+(ew a).length:=by simp[ew];omega
  rw[e];exact r
theorem aaw(T:QT)(hl:(ew T).length<=2000)(ad:Option Addr)(cap:Nat)(w:World)(hN:gd w ad (ew T)):
 Calls prog 25 #[.slice ad (ew T).length cap] w fun e w'=>e=.returned (.int .i64 (jt T:Nat))/\w'=w:=by
 have h1:=alt (ew T) hl ad cap w hN T 0 [] (by simp);rw[dg]at h1;have H1:Hid (Calls prog 56 #[.slice ad (ew T).length cap,.int .i64 0] w fun e w'=>e=.returned (.tuple #[.int .i64 ((ew T).length:Nat),.int .i64 (jt T:Nat)])/\w'=w):=aa h1;generalize (ew T).length=F at *;generalize jt T=D at *;clear h1 hN;go_enter func25,ntmps25;go_wp2_with(go_at_call 56;refine H1.out.mono ?_;rintro e w1⟨rfl,rfl⟩)
 go_ret;exact⟨rfl,rfl⟩
def ajk(s:ByteArray)(w:World)(e:Ending)(w':World):Prop:=
 ∃(v:Value)(a no:Int),e=.returned (.tuple #[v,.int .i64 a,.int .i64 no])/\Below w.heap.size w w'∧
  (no≠0\/(no=0/\∃T vs,ov s T/\(ew T).length<=64/\w'.ownsRow w.heap.size 81 4 v (ew T).length vs/\f9 (ju w') (ew T) vs))
theorem ahl(s:ByteArray)(w:World):Calls prog 7 #[.string s] w (ajk s w):=by
 have q1:=aa (apr s w);go_enter func7,ntmps7;go_wp2_with fail
 go_at_call 23;refine q1.out.mono ?_;rintro e w1⟨v1,a1,no1,rfl,hb1,hres⟩;by_cases hno:no1=0
 ·subst hno
  obtain⟨l,vs,hL,hl,hV,hO⟩:∃l vs,qx s 0 l/\l.length<=1000/\f9 (rt w1) l vs/\w1.ownsRow w.heap.size 71 4 v1 l.length vs:=by
   rcases hres with h|⟨_,h⟩
   ·exact absurd rfl h
   ·exact h
  obtain⟨ad1,c1,rfl⟩:=ey hO;have HL:=aa hL;have hTk:il w1 71 ad1 l:=⟨vs,ft.own hO,hV⟩;have HTk:=aa hTk;have HB1:=aa hb1;have q2:=aa (ahj ad1 c1 l hl w1 hTk);have hli:(l.length:Int)<=1000:=by omega
  clear hres hL hV hO hTk hb1 q1;go_wp2_with fail
  go_at_call 24;refine q2.out.mono ?_;rintro e w2⟨r2,ns2,vs2,nx2,bad2,rfl,hn2,hx2,ho2,hv2,hb2,ht2⟩;obtain⟨a2,c2,rfl⟩:=ey ho2;have HB2:=aa (HB1.out.trans (hb2.mono HB1.out.size));have hb3:=(aw w2.heap.size w2).alloc ac (ie (.slice a2 ns2.length c2) nx2 bad2);have HB3:=aa (HB2.out.trans (hb3.mono HB2.out.size));have HG3:=aa (At.new w2 (ie (.slice a2 ns2.length c2) nx2 bad2));have HO3:=aa (fx (fe ho2 hb3) HB1.out.size);have HV3:=aa (gw hv2 (Kt.below hb3));have HT2:=aa ht2;have HTk3:=aa (HTk.out.below (hb2.trans (hb3.mono hb2.size)));have hn2':ns2.length<=1000:=by omega
  have hx2':=aa hx2;have hnx:(nx2:Int)<=l.length:=by omega
  clear hn2 hx2 ho2 hv2 hb2 ht2 hb3;go_upto_region 5 with fail
  generalize w2.alloc (ie (.slice a2 ns2.length c2) nx2 bad2)=W3 at *;generalize w2.heap.size=G at *;have g0:=HG3.out.cell 0;have g1:=HG3.out.cell 1;have g2:=HG3.out.cell 2;have gl:=HG3.out.lt;simp only[ak,am,au]at g0 g1 g2;cases bad2
  ·by_cases hlt:(nx2:Int)<l.length
   ·obtain⟨t,ht⟩:∃t,l[nx2]?=some t:=⟨_,bs (by omega)⟩
    obtain⟨b,o,pa,pc,rfl,hb,-,p1,-,-,-⟩:=HTk3.out.at ht;clear ht;go_wp2_with fail
    refine ay (v:=.tuple #[.slice none 0 0,.int .i64 (t.place:Nat),.int .i64 140]) (by first|rfl|simp[results,results7,go_sem]) rfl ⟨_,_,_,rfl,HB3.out,.inl (by decide)⟩
   ·have hnl:nx2=l.length:=by have:=hx2'.out;omega
    obtain⟨T,hT,hP⟩:=HT2.out rfl;rw[hnl,List.drop_length,List.drop_zero]at hP;subst hT;have HP:=aa hP;clear hnl hP;have q3:=aa (aaw T (by omega) a2 c2 W3 ⟨vs2,ft.own HO3.out,HV3.out⟩);generalize hF:(ew T).length=F at *;have HF:=aa hF;generalize jt T=D at *;clear hF;by_cases h64:(64:Int)<F
    ·go_wp2_with fail
     refine ay (v:=.tuple #[.slice none 0 0,.int .i64 0,.int .i64 142]) (by first|rfl|simp[results,results7,go_sem]) rfl ⟨_,_,_,rfl,HB3.out,.inl (by decide)⟩
    ·by_cases h16:(16:Int)<D
     ·go_wp2_with(go_at_call 25;refine q3.out.mono ?_;rintro e w4⟨rfl,rfl⟩)
      refine ay (v:=.tuple #[.slice none 0 0,.int .i64 0,.int .i64 141]) (by first|rfl|simp[results,results7,go_sem]) rfl ⟨_,_,_,rfl,HB3.out,.inl (by decide)⟩
     ·go_wp2_with(go_at_call 25;refine q3.out.mono ?_;rintro e w4⟨rfl,rfl⟩)
      refine ay (v:=.tuple #[.slice a2 F c2,.int .i64 (s.size:Nat),.int .i64 0]) (by first|rfl|simp[results,results7,go_sem]) rfl ⟨_,_,_,rfl,HB3.out,.inr ⟨rfl,T,vs2,⟨l,HL.out,HP.out⟩,by rw[HF.out];omega,by rw[HF.out];exact HO3.out,HV3.out⟩⟩
  ·by_cases hlt:(nx2:Int)<l.length
   ·obtain⟨t,ht⟩:∃t,l[nx2]?=some t:=⟨_,bs (by omega)⟩
    obtain⟨b,o,pa,pc,rfl,hb,-,p1,-,-,-⟩:=HTk3.out.at ht;clear ht;go_wp2_with fail
    refine ay (v:=.tuple #[.slice none 0 0,.int .i64 (t.place:Nat),.int .i64 140]) (by first|rfl|simp[results,results7,go_sem]) rfl ⟨_,_,_,rfl,HB3.out,.inl (by decide)⟩
   ·go_wp2_with fail
    refine ay (v:=.tuple #[.slice none 0 0,.int .i64 (s.size:Nat),.int .i64 140]) (by first|rfl|simp[results,results7,go_sem]) rfl ⟨_,_,_,rfl,HB3.out,.inl (by decide)⟩
 ·have hne:(no1 !=0)=true:=by rw[bne_iff_ne];exact hno
  have Hno:=aa hno;have HB1:=aa hb1;clear hno hres hb1;go_wp2_with fail
  refine ay (v:=.tuple #[.slice none 0 0,.int .i64 a1,.int .i64 no1]) (by first|rfl|simp[results,results7,go_sem]) rfl ⟨_,_,_,rfl,HB1.out,.inl Hno.out⟩
end
end Go.Proofs.YtjfkmoinldlmaaaGreat
