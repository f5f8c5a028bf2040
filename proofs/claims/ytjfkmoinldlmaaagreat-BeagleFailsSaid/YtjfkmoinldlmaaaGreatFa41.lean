/- The walk of BeagleFails, part 41. Walk of the reference's part. The stream in general; walk of its search at any leaf. -/
import Derived.Test.YtjfkmoinldlmaaaGreatFa40
namespace Go.Proofs.YtjfkmoinldlmaaaGreat
open Go.Proofs.Tryz
section
set_option maxRecDepth 100000
set_option maxHeartbeats 8000000
open Go.RowKit Go.Shelf
def akt(w:World)(B j:Nat):Nat:=match w.cell? ⟨B,j,none⟩with|some (.int _ n)=>n.toNat|_=>0
theorem jw{w:World}{B:Nat}{r:Value}{n:Nat}{b:Bool}(h:At w B (ie r (n:Nat) b)):akt w B 1=n:=by
 have:=h.cell 1;simp only[ak,am,au]at this;unfold akt;rw[this];simp
theorem nk{w w':World}{base:Nat}{e:TypeId}{size n:Nat}{S:List Nat}{v:Value}{xs:List Value}(h:w.ownsRow base e size v n xs)(hb:Ex S w w')(hC:∀x∈S,∀cur,w.heap[x]?≠some (.cells cur e (0,0))):w'.ownsRow base e size v n xs:=by
 refine⟨h.1,?_⟩;rcases h.2 with h2|⟨g,cap,cur,hv,hbb,hg,r⟩
 ·exact .inl h2
 ·refine .inr ⟨g,cap,cur,hv,hbb,?_,r⟩
  rw[hb.block g (df.1 hg).1 (fun hx=>hC g hx cur hg)];exact hg
theorem At.no{w:World}{B:Nat}{cs:Array Value}{t e:TypeId}{fz:Nat×Nat}(h:At w B (.cells cs t fz))(hne:t≠e):∀cur fz',w.heap[B]?≠some (.cells cur e fz'):=fun cur fz' he=>by
 rw[show w.heap[B]?=some (.cells cs t fz)from h]at he;injection he with he;injection he with h1 h2;exact hne h2
structure PLp(w0 wr:World)(R G:Nat)(m ms:PM)(mk:QT->PM)(toks:List gq)(p:Nat)(r:Value)(ns:List QN)(vs:List Value)(nx:Nat)(bad:Bool):Prop where
 hR:At wr R (ie (.slice none 0 0) 0 false)
 hG:At wr G (ie r (nx:Nat) bad)
 own:wr.ownsRow (w0.heap.size+1) 81 4 r ns.length vs
 recs:f9 (ju wr) ns vs
 bl:Below w0.heap.size w0 wr
 le:ns.length+p<=nx
 lt:nx<=toks.length
 cps:bad=false->∃T,ns=ew T/\∀T' l,PR (mk T) (toks.drop nx) T' l->PR m (toks.drop p) T' l
theorem aas(ad:Option Addr)(cap:Nat)(toks:List gq)(hl:toks.length<=1000)(p:Nat)
 (ih0:∀w,il w 71 ad toks->Calls prog 100 #[.slice ad toks.length cap,.int .i64 (p:Nat)] w (oj w .item toks p))
 (ih:∀q,p<q->q<=toks.length->∀w,il w 71 ad toks->Calls prog 100 #[.slice ad toks.length cap,.int .i64 (q:Nat)] w (oj w .item toks q)) (w:World) (hT:il w 71 ad toks):
 Calls prog 54 #[.slice ad toks.length cap,.int .i64 (p:Nat)] w (oj w .part toks p):=by
 have q1:=aa fun j w' h=>jx ad cap toks hl j w' h
 have q2:=aa ih0;have q3:=aa ih;have HR0:=aa (At.new w (ie (.slice none 0 0) 0 false));have hB0:=(aw w.heap.size w).alloc ac (ie (.slice none 0 0) 0 false);have HT0:=aa (hT.below hB0);have HTw:=aa hT;have HB0:=aa hB0;have HSZ:=aa (show(w.alloc (ie (.slice none 0 0) 0 false)).heap.size=w.heap.size+1 by simp);clear hT hB0 ih0 ih;go_enter func54,ntmps54;go_wp2_with fail
 go_at_call 100;refine(q2.out _ HT0.out).mono ?_;rintro e w2⟨r2,ns2,vs2,nx2,bad2,rfl,hn2,hx2,ho2,hv2,hb2,ht2⟩;obtain⟨a2,c2,rfl⟩:=ey ho2;have H0:Hid (PLp w (w2.alloc (ie (.slice a2 ns2.length c2) nx2 bad2)) w.heap.size w2.heap.size .part .item .ands toks p (.slice a2 ns2.length c2) ns2 vs2 nx2 bad2):=aa (by
  have hb3:=(aw w2.heap.size w2).alloc ac (ie (.slice a2 ns2.length c2) nx2 bad2)
  have hB2:=HB0.out.trans (hb2.mono HB0.out.size)
  refine⟨(HR0.out.below hb2 HR0.out.lt).alloc _,At.new _ _,?_,gw hv2 (Kt.below hb3),hB2.trans (hb3.mono hB2.size),hn2,hx2,fun h=>?_⟩
  ·have:=fe ho2 hb3
   rwa[HSZ.out]at this
  ·obtain⟨T,hT,hP⟩:=ht2 h
   exact⟨T,hT,fun T' l hc=>.part _ T _ T' l hP hc⟩)
 have HRG:Hid (w.heap.size<w2.heap.size):=aa (by have:=hb2.size;have:=HSZ.out;omega);clear hn2 hx2 ho2 hv2 hb2 ht2;go_upto_region 2 with fail
 generalize w2.alloc (ie (.slice a2 ns2.length c2) nx2 bad2)=W2 at *;generalize hG:w2.heap.size=G at *;clear hG;go_loopw[] (fun wr=>∃r ns vs nx bad,PLp w wr w.heap.size G .part .item .ands toks p r ns vs nx bad) (fun wr=>toks.length+1-akt wr G 1)
 case atStart=>exact⟨_,_,_,_,_,H0.out⟩
 case round=>
  obtain⟨r,ns,vs,nx,bad,H⟩:=hrel;obtain⟨a,c,rfl⟩:=ey H.own;have HH:=aa H;have c0:=H.hR.cell 0;have c1:=H.hR.cell 1;have c2':=H.hR.cell 2;have f0:=H.hR.free 0;have f1:=H.hR.free 1;have f2:=H.hR.free 2;have rl:=H.hR.lt;have g0:=H.hG.cell 0;have g1:=H.hG.cell 1;have g2:=H.hG.cell 2;have y0:=H.hG.free 0;have y1:=H.hG.free 1;have y2:=H.hG.free 2;have gl:=H.hG.lt;have hnx:(nx:Int)<=1000:=by have:=H.lt;omega
  have hne:w.heap.size≠G:=by have:=HRG.out;omega
  have hne2:G≠w.heap.size:=fun h=>hne h.symm
  have HTr:Hid (il wr 71 ad toks):=aa (HTw.out.below H.bl);simp only[ak,am,au]at c0 c1 c2' g0 g1 g2;clear H;cases bad
  ·have hh:=aa (q1.out nx wr HTr.out)
   by_cases hk:ik toks nx=3
   ·obtain⟨u,huj,huk,hul,hud⟩:=jz hk (by decide)
    rw[hk]at hh;have hud':=aa hud;have huk':=aa huk;have hul':=aa hul;have q4:Hid (Calls prog 100 #[.slice ad toks.length cap,.int .i64 ((nx:Int)+1)] wr (oj wr .item toks (nx+1))):=aa (by have:=q3.out (nx+1) (by have:=HH.out.le;omega) hul wr HTr.out;rwa[Int.natCast_succ]at this);clear huj huk hud hk hul;go_wp2_with(go_at_call 55;(with_reducible refine hh.out.mono ?_);rintro e w4⟨rfl,rfl⟩)
    go_at_call 100;refine q4.out.mono ?_;rintro e w5⟨r5,ns5,vs5,nx5,bad5,rfl,hn5,hx5,ho5,hv5,hb5,ht5⟩;obtain⟨a5,c5,rfl⟩:=ey ho5;have hb6:=(aw w5.heap.size w5).alloc ac (ie (.slice a5 ns5.length c5) nx5 bad5);have hb46:=hb5.trans (hb6.mono hb5.size);have HG6:=aa (HH.out.hG.below hb46 HH.out.hG.lt);have HR6:=aa (HH.out.hR.below hb46 HH.out.hR.lt);have HH6:=aa (At.new w5 (ie (.slice a5 ns5.length c5) nx5 bad5));have HO6:=aa (fe HH.out.own hb46);have HO56:=aa (fe ho5 hb6);have HV6:=aa (gw HH.out.recs (Kt.below hb46));have HV56:=aa (gw hv5 (Kt.below hb6));have HB6:=aa (HH.out.bl.trans (hb46.mono HH.out.bl.size));have HLn:=aa hn5;have HLx:=aa hx5;have HLt:=aa ht5;have HGH:Hid (G<w5.heap.size):=aa (az HH.out.hG.lt hb5.size);have Hl6:=aa (show w5.heap.size<(w5.alloc (ie (.slice a5 ns5.length c5) nx5 bad5)).heap.size by simp);have hVl:=HH.out.recs.len (fun _ _ h=>h.len);have hVl5:=hv5.len (fun _ _ h=>h.len);have HVo:=aa (jy HH.out.recs jo);have HVo5:=aa (jy hv5 jo);have hns:ns.length<=1000:=by have:=HH.out.le;have:=HH.out.lt;omega
    have hns5:ns5.length<=1000:=by omega
    clear hn5 hx5 ho5 hv5 hb5 ht5 hb6 hb46 c0 c1 c2' f0 f1 f2 rl g0 g1 g2 y0 y1 y2 gl;go_upto_region 4 with fail
    generalize w5.alloc (ie (.slice a5 ns5.length c5) nx5 bad5)=W6 at *;generalize hH:w5.heap.size=H at *;clear hH;have g0:=HG6.out.cell 0;have k0:=HH6.out.cell 0;simp only[ak,am]at g0 k0;have HG7:Hid (At W6.drew G (ie (.slice a ns.length c) (nx:Nat) false)):=aa HG6.out;have HR7:Hid (At W6.drew w.heap.size (ie (.slice none 0 0) 0 false)):=aa HR6.out;have HH7:Hid (At W6.drew H (ie (.slice a5 ns5.length c5) (nx5:Nat) bad5)):=aa HH6.out;have HO7:Hid (W6.drew.ownsRow (w.heap.size+1) 81 4 (.slice a ns.length c) ns.length vs):=aa HO6.out;have HO57:Hid (W6.drew.ownsRow w4.heap.size 81 4 (.slice a5 ns5.length c5) ns5.length vs5):=aa HO56.out;have HV7:Hid (f9 (ju W6.drew) ns vs):=aa HV6.out;have HV57:Hid (f9 (ju W6.drew) ns5 vs5):=aa HV56.out;have HB7:Hid (Below w.heap.size w W6.drew):=aa HB6.out.drew;have Hl7:Hid (H<W6.drew.heap.size):=aa Hl6.out;refine wp_region_held_drew (S:=fun w'=>w'.cell? ⟨G,0,none⟩=some (.slice a ns.length c)) (by kernel_rfl) (show W6.drew.cell? ⟨G,0,none⟩=some (.slice a ns.length c)from g0) (fun hS=>?_);generalize W6.drew=W7 at *;clear g0 k0;refine tk 0 25 (.agg #[.int .i64 2,.int .i64 0,.slice none 0 0,.int .i64 0]) hS ?_;refine tk 2 27 (.pointer (some ⟨G,0,none⟩)) hS ?_;refine tk 3 28 (.slice a ns.length c) hS ?_;refine tk 5 30 (.pointer (some ⟨H,0,none⟩)) hS ?_;have SX:Hid (∀w',Below W7.heap.size W7 w'->w'.cell? ⟨G,0,none⟩=some (.slice a ns.length c)):=aa fun w' hb'=>(HG7.out.below hb' HG7.out.lt).cell 0
    have SH:Hid (∀w',Below W7.heap.size W7 w'->w'.cell? ⟨H,0,none⟩=some (.slice a5 ns5.length c5)):=aa fun w' hb'=>(HH7.out.below hb' HH7.out.lt).cell 0
    have hb8:=(aw W7.heap.size W7).alloc ac (fw 2 0 (.slice none 0 0) 0);have HB8:=aa hb8;have HOL:=aa (World.ownsRow_lit (base:=W7.heap.size) (e:=81) (size:=4) W7 #[.int .i64 ((2:Nat):Int),.int .i64 ((0:Nat):Int),.slice none 0 0,.int .i64 0] 1 ac (by unfold maxLen;omega) rfl);have HNw:=aa ((ft.own HO7.out).keep (Kt.below hb8)).news;have HNw5:=aa (ft.own HO57.out);have HZ:=aa hb8.size;clear hb8;refine wpAnyH_ready (rs:=[1,6]) (by kernel_rfl) (by simp) ?_;refine AllReadyH.cons rfl (fun Kc hK=>?_) (AllReadyH.cons rfl (fun Kc hK=>?_) AllReadyH.nil)
    ·go_simp
     refine hK.out _ _ (SX.out _ HB8.out) (fun hH=>?_);try simp only[Act.put,ag,ai,aj]
     clear hK Kc;refine wpAnyH_ready (rs:=[4,6]) (by kernel_rfl) (by simp) ?_;refine AllReadyH.cons (o:={dst:=some 29,op:=.call {callee:=.builtin .append,args:=#[.tmp 26,.tmp 28],argTypes:=#[29,29]},type:=29,pos:= "ref.go:169",after:=_,guard:=none}) rfl (fun Kc hK=>?_) (AllReadyH.cons rfl (fun Kc hK=>?_) AllReadyH.nil)
     ·refine ij j2 (by with_reducible rfl) (.tmp 26) (.tmp 28) (by with_reducible rfl) (by rfl) HOL.out (by rfl) HNw.out hVl HVo.out (by unfold maxLen;omega) (by omega) HZ.out ?_
      intro v8 w8 hown8 hb8' hk8 hg8 hv8;obtain⟨a8,c8,rfl⟩:=ey hown8;have HO8:=aa hown8;have HBx8:=aa (HB8.out.trans hb8');clear hown8 hb8' hk8 hg8 hv8;refine hK.out _ _ (SX.out _ HBx8.out) (fun hH=>?_);try simp only[Act.put,ag,ai,aj]
      clear hK Kc;refine mw 6 (fun Kc hK=>?_);have kk:=SH.out w8 (HBx8.out);have hlH:=az HH7.out.lt (HBx8.out).size;go_simp;refine hK.out _ _ (SX.out _ (HBx8.out)) (fun hH=>?_);clear kk hlH;try simp only[Act.put,ag,ai,aj]
      clear hK Kc;refine mw 7 (o:={dst:=some 32,op:=.call {callee:=.builtin .append,args:=#[.tmp 29,.tmp 31],argTypes:=#[29,29]},type:=29,pos:= "ref.go:169",after:=_,guard:=none}) (fun Kc hK=>?_);refine ij j2 (by with_reducible rfl) (.tmp 29) (.tmp 31) (by with_reducible rfl) (by rfl) HO8.out (by rfl) (HNw5.out.keep (Kt.below HBx8.out)).news hVl5 HVo5.out (by unfold maxLen;omega) (by omega) HBx8.out.size ?_;intro v9 w9 hown9 hb9' hk9 hg9 hv9;obtain⟨a9,c9,rfl⟩:=ey hown9;have HO9:=aa hown9;have HB9:=aa (HBx8.out.trans hb9');clear hown9 hb9' hk9 hg9 hv9;refine hK.out _ _ (SX.out _ HB9.out) (fun hH=>?_);try simp only[Act.put,ag,ai,aj]
      clear hK Kc;have HG9:=aa (HG7.out.below HB9.out HG7.out.lt);have HR9:=aa (HR7.out.below HB9.out HR7.out.lt);have HH9:=aa (HH7.out.below HB9.out HH7.out.lt);refine tk 8 33 (.pointer (some ⟨H,0,none⟩)) hH ?_;have k0:=HH9.out.cell 0;have k1:=HH9.out.cell 1;have k2:=HH9.out.cell 2;have x0:=HH9.out.free 0;have hlH:=HH9.out.lt;simp only[ak,am,au]at k0 k1 k2;have hHG:H≠G:=by have:=HGH.out;omega
      have hGH:G≠H:=fun h=>hHG h.symm
      have HGs:=aa (HG9.out.far (p:=⟨H,0,none⟩) hHG (.slice a9 (1+ns.length+ns5.length) c9));have HRs:=aa (HR9.out.far (p:=⟨H,0,none⟩) (by have:=HGH.out;have:=HRG.out;show H≠w.heap.size;omega) (.slice a9 (1+ns.length+ns5.length) c9));have hHs:=HH9.out.set 0 (.slice a9 (1+ns.length+ns5.length) c9);simp only[ag,ai]at hHs;have HHs:=aa hHs;have HOs:=aa (qk HO9.out ((Ex.refl [H] w9).set H 0 (.slice a9 (1+ns.length+ns5.length) c9) (by simp)) (by have:=Hl7.out;intro x hx;rw[cd.1 hx];exact .inl this));have HKs:=aa ((Kt.refl 100 w9).trans (Kt.set HH9.out 0 (.slice a9 (1+ns.length+ns5.length) c9)));have HBs:=aa ((HB7.out.trans (HB9.out.mono HB7.out.size)).setCell (p:=⟨H,0,none⟩) (by have:=HGH.out;have:=HRG.out;show w.heap.size<=H;omega) (.slice a9 (1+ns.length+ns5.length) c9));refine mw 9 (fun Kc hK=>?_);go_simp;refine hK.out _ _ (HGs.out.cell 0) (fun hH=>?_);try simp only[Act.put,ag,ai,aj]
      clear hK Kc k0 k1 k2 x0 hlH hHs;refine wpAnyH_done (by kernel_rfl) ?_ _;generalize w9.setCell ⟨H,0,none⟩ (.slice a9 (1+ns.length+ns5.length) c9)=Ws at *;have k0:=HHs.out.cell 0;have k1:=HHs.out.cell 1;have k2:=HHs.out.cell 2;have g0:=HGs.out.cell 0;have g1:=HGs.out.cell 1;have g2:=HGs.out.cell 2;have y0:=HGs.out.free 0;have y1:=HGs.out.free 1;have y2:=HGs.out.free 2;have gl:=HGs.out.lt;have kl:=HHs.out.lt;simp only[ak,am,au]at k0 k1 k2 g0 g1 g2;go_wp2_with fail
      have hGf:=(((HGs.out.set 0 (.slice a9 (1+ns.length+ns5.length) c9)).set 1 (.int .i64 (nx5:Nat))).set 2 (.bool bad5));simp only[ag,ai,aj]at hGf;have hEf:=(((Ex.refl [G] Ws).set G 0 (.slice a9 (1+ns.length+ns5.length) c9) (by simp)).set G 1 (.int .i64 (nx5:Nat)) (by simp)).set G 2 (.bool bad5) (by simp);have hVf:=((f9.cons (jv W7 2 0) (HV7.out.append HV57.out)).mono fun _ _ h=>((h.keep (Kt.below HB9.out)).keep HKs.out).keep (Kt.at1 hEf HGs.out));go_roundw
      case rel=>
       refine⟨.slice a9 (1+ns.length+ns5.length) c9,⟨2,0,[],0⟩::(ns++ns5),_,nx5,bad5,HRs.out.ex hEf (by simpa using hne),hGf,?_,hVf,HBs.out.trans (hEf.below HBs.out.size (by have:=HRG.out;simp;omega)),?_,HLx.out,fun hb=>?_⟩
       ·rw[show(⟨2,0,[],0⟩::(ns++ns5):List QN).length=1+ns.length+ns5.length by simp;omega]
        have:=nk HOs.out hEf (fun x hx cur=>by rw[cd.1 hx];exact At.no HGs.out (by decide) cur (0,0));rw[dc]at this;exact fx this (by have:=HB7.out.size;have:=HRG.out;have:=Hl7.out;have:=HGH.out;omega)
       ·have:=HLn.out
        have:=HH.out.le;simp;omega
       ·obtain⟨T,hT,hP⟩:=HH.out.cps rfl
        obtain⟨U,hU,hQ⟩:=HLt.out hb;exact⟨.and T U,by rw[hT,hU];rfl,fun T' l hc=>hP T' l (by rw[hud'.out];exact .andOn T u _ U _ T' l huk'.out hQ hc)⟩
      case measure=>rw[jw hGf,jw HH.out.hG];have:=HLn.out;have:=hul'.out;have:=HLx.out;omega
     ·have kk:=SH.out (W7.alloc (fw 2 0 (.slice none 0 0) 0)) (HB8.out)
      have hlH:=az HH7.out.lt (HB8.out).size;go_simp;refine hK.out _ _ (SX.out _ (HB8.out)) (fun hH=>?_);clear kk hlH;try simp only[Act.put,ag,ai,aj]
      clear hK Kc;refine mw 4 (o:={dst:=some 29,op:=.call {callee:=.builtin .append,args:=#[.tmp 26,.tmp 28],argTypes:=#[29,29]},type:=29,pos:= "ref.go:169",after:=_,guard:=none}) (fun Kc hK=>?_);refine ij j2 (by with_reducible rfl) (.tmp 26) (.tmp 28) (by with_reducible rfl) (by rfl) HOL.out (by rfl) HNw.out hVl HVo.out (by unfold maxLen;omega) (by omega) HZ.out ?_;intro v8 w8 hown8 hb8' hk8 hg8 hv8;obtain⟨a8,c8,rfl⟩:=ey hown8;have HO8:=aa hown8;have HBx8:=aa (HB8.out.trans hb8');clear hown8 hb8' hk8 hg8 hv8;refine hK.out _ _ (SX.out _ HBx8.out) (fun hH=>?_);try simp only[Act.put,ag,ai,aj]
      clear hK Kc;refine mw 7 (o:={dst:=some 32,op:=.call {callee:=.builtin .append,args:=#[.tmp 29,.tmp 31],argTypes:=#[29,29]},type:=29,pos:= "ref.go:169",after:=_,guard:=none}) (fun Kc hK=>?_);refine ij j2 (by with_reducible rfl) (.tmp 29) (.tmp 31) (by with_reducible rfl) (by rfl) HO8.out (by rfl) (HNw5.out.keep (Kt.below HBx8.out)).news hVl5 HVo5.out (by unfold maxLen;omega) (by omega) HBx8.out.size ?_;intro v9 w9 hown9 hb9' hk9 hg9 hv9;obtain⟨a9,c9,rfl⟩:=ey hown9;have HO9:=aa hown9;have HB9:=aa (HBx8.out.trans hb9');clear hown9 hb9' hk9 hg9 hv9;refine hK.out _ _ (SX.out _ HB9.out) (fun hH=>?_);try simp only[Act.put,ag,ai,aj]
      clear hK Kc;have HG9:=aa (HG7.out.below HB9.out HG7.out.lt);have HR9:=aa (HR7.out.below HB9.out HR7.out.lt);have HH9:=aa (HH7.out.below HB9.out HH7.out.lt);refine tk 8 33 (.pointer (some ⟨H,0,none⟩)) hH ?_;have k0:=HH9.out.cell 0;have k1:=HH9.out.cell 1;have k2:=HH9.out.cell 2;have x0:=HH9.out.free 0;have hlH:=HH9.out.lt;simp only[ak,am,au]at k0 k1 k2;have hHG:H≠G:=by have:=HGH.out;omega
      have hGH:G≠H:=fun h=>hHG h.symm
      have HGs:=aa (HG9.out.far (p:=⟨H,0,none⟩) hHG (.slice a9 (1+ns.length+ns5.length) c9));have HRs:=aa (HR9.out.far (p:=⟨H,0,none⟩) (by have:=HGH.out;have:=HRG.out;show H≠w.heap.size;omega) (.slice a9 (1+ns.length+ns5.length) c9));have hHs:=HH9.out.set 0 (.slice a9 (1+ns.length+ns5.length) c9);simp only[ag,ai]at hHs;have HHs:=aa hHs;have HOs:=aa (qk HO9.out ((Ex.refl [H] w9).set H 0 (.slice a9 (1+ns.length+ns5.length) c9) (by simp)) (by have:=Hl7.out;intro x hx;rw[cd.1 hx];exact .inl this));have HKs:=aa ((Kt.refl 100 w9).trans (Kt.set HH9.out 0 (.slice a9 (1+ns.length+ns5.length) c9)));have HBs:=aa ((HB7.out.trans (HB9.out.mono HB7.out.size)).setCell (p:=⟨H,0,none⟩) (by have:=HGH.out;have:=HRG.out;show w.heap.size<=H;omega) (.slice a9 (1+ns.length+ns5.length) c9));refine mw 9 (fun Kc hK=>?_);go_simp;refine hK.out _ _ (HGs.out.cell 0) (fun hH=>?_);try simp only[Act.put,ag,ai,aj]
      clear hK Kc k0 k1 k2 x0 hlH hHs;refine wpAnyH_done (by kernel_rfl) ?_ _;generalize w9.setCell ⟨H,0,none⟩ (.slice a9 (1+ns.length+ns5.length) c9)=Ws at *;have k0:=HHs.out.cell 0;have k1:=HHs.out.cell 1;have k2:=HHs.out.cell 2;have g0:=HGs.out.cell 0;have g1:=HGs.out.cell 1;have g2:=HGs.out.cell 2;have y0:=HGs.out.free 0;have y1:=HGs.out.free 1;have y2:=HGs.out.free 2;have gl:=HGs.out.lt;have kl:=HHs.out.lt;simp only[ak,am,au]at k0 k1 k2 g0 g1 g2;go_wp2_with fail
      have hGf:=(((HGs.out.set 0 (.slice a9 (1+ns.length+ns5.length) c9)).set 1 (.int .i64 (nx5:Nat))).set 2 (.bool bad5));simp only[ag,ai,aj]at hGf;have hEf:=(((Ex.refl [G] Ws).set G 0 (.slice a9 (1+ns.length+ns5.length) c9) (by simp)).set G 1 (.int .i64 (nx5:Nat)) (by simp)).set G 2 (.bool bad5) (by simp);have hVf:=((f9.cons (jv W7 2 0) (HV7.out.append HV57.out)).mono fun _ _ h=>((h.keep (Kt.below HB9.out)).keep HKs.out).keep (Kt.at1 hEf HGs.out));go_roundw
      case rel=>
       refine⟨.slice a9 (1+ns.length+ns5.length) c9,⟨2,0,[],0⟩::(ns++ns5),_,nx5,bad5,HRs.out.ex hEf (by simpa using hne),hGf,?_,hVf,HBs.out.trans (hEf.below HBs.out.size (by have:=HRG.out;simp;omega)),?_,HLx.out,fun hb=>?_⟩
       ·rw[show(⟨2,0,[],0⟩::(ns++ns5):List QN).length=1+ns.length+ns5.length by simp;omega]
        have:=nk HOs.out hEf (fun x hx cur=>by rw[cd.1 hx];exact At.no HGs.out (by decide) cur (0,0));rw[dc]at this;exact fx this (by have:=HB7.out.size;have:=HRG.out;have:=Hl7.out;have:=HGH.out;omega)
       ·have:=HLn.out
        have:=HH.out.le;simp;omega
       ·obtain⟨T,hT,hP⟩:=HH.out.cps rfl
        obtain⟨U,hU,hQ⟩:=HLt.out hb;exact⟨.and T U,by rw[hT,hU];rfl,fun T' l hc=>hP T' l (by rw[hud'.out];exact .andOn T u _ U _ T' l huk'.out hQ hc)⟩
      case measure=>rw[jw hGf,jw HH.out.hG];have:=HLn.out;have:=hul'.out;have:=HLx.out;omega
    ·have kk:=SH.out W7 (aw W7.heap.size W7)
     have hlH:=az HH7.out.lt (aw W7.heap.size W7).size;go_simp;refine hK.out _ _ (SX.out _ (aw W7.heap.size W7)) (fun hH=>?_);clear kk hlH;try simp only[Act.put,ag,ai,aj]
     clear hK Kc;refine mw 1 (fun Kc hK=>?_);go_simp;refine hK.out _ _ (SX.out _ HB8.out) (fun hH=>?_);try simp only[Act.put,ag,ai,aj]
     clear hK Kc;refine mw 4 (o:={dst:=some 29,op:=.call {callee:=.builtin .append,args:=#[.tmp 26,.tmp 28],argTypes:=#[29,29]},type:=29,pos:= "ref.go:169",after:=_,guard:=none}) (fun Kc hK=>?_);refine ij j2 (by with_reducible rfl) (.tmp 26) (.tmp 28) (by with_reducible rfl) (by rfl) HOL.out (by rfl) HNw.out hVl HVo.out (by unfold maxLen;omega) (by omega) HZ.out ?_;intro v8 w8 hown8 hb8' hk8 hg8 hv8;obtain⟨a8,c8,rfl⟩:=ey hown8;have HO8:=aa hown8;have HBx8:=aa (HB8.out.trans hb8');clear hown8 hb8' hk8 hg8 hv8;refine hK.out _ _ (SX.out _ HBx8.out) (fun hH=>?_);try simp only[Act.put,ag,ai,aj]
     clear hK Kc;refine mw 7 (o:={dst:=some 32,op:=.call {callee:=.builtin .append,args:=#[.tmp 29,.tmp 31],argTypes:=#[29,29]},type:=29,pos:= "ref.go:169",after:=_,guard:=none}) (fun Kc hK=>?_);refine ij j2 (by with_reducible rfl) (.tmp 29) (.tmp 31) (by with_reducible rfl) (by rfl) HO8.out (by rfl) (HNw5.out.keep (Kt.below HBx8.out)).news hVl5 HVo5.out (by unfold maxLen;omega) (by omega) HBx8.out.size ?_;intro v9 w9 hown9 hb9' hk9 hg9 hv9;obtain⟨a9,c9,rfl⟩:=ey hown9;have HO9:=aa hown9;have HB9:=aa (HBx8.out.trans hb9');clear hown9 hb9' hk9 hg9 hv9;refine hK.out _ _ (SX.out _ HB9.out) (fun hH=>?_);try simp only[Act.put,ag,ai,aj]
     clear hK Kc;have HG9:=aa (HG7.out.below HB9.out HG7.out.lt);have HR9:=aa (HR7.out.below HB9.out HR7.out.lt);have HH9:=aa (HH7.out.below HB9.out HH7.out.lt);refine tk 8 33 (.pointer (some ⟨H,0,none⟩)) hH ?_;have k0:=HH9.out.cell 0;have k1:=HH9.out.cell 1;have k2:=HH9.out.cell 2;have x0:=HH9.out.free 0;have hlH:=HH9.out.lt;simp only[ak,am,au]at k0 k1 k2;have hHG:H≠G:=by have:=HGH.out;omega
     have hGH:G≠H:=fun h=>hHG h.symm
     have HGs:=aa (HG9.out.far (p:=⟨H,0,none⟩) hHG (.slice a9 (1+ns.length+ns5.length) c9));have HRs:=aa (HR9.out.far (p:=⟨H,0,none⟩) (by have:=HGH.out;have:=HRG.out;show H≠w.heap.size;omega) (.slice a9 (1+ns.length+ns5.length) c9));have hHs:=HH9.out.set 0 (.slice a9 (1+ns.length+ns5.length) c9);simp only[ag,ai]at hHs;have HHs:=aa hHs;have HOs:=aa (qk HO9.out ((Ex.refl [H] w9).set H 0 (.slice a9 (1+ns.length+ns5.length) c9) (by simp)) (by have:=Hl7.out;intro x hx;rw[cd.1 hx];exact .inl this));have HKs:=aa ((Kt.refl 100 w9).trans (Kt.set HH9.out 0 (.slice a9 (1+ns.length+ns5.length) c9)));have HBs:=aa ((HB7.out.trans (HB9.out.mono HB7.out.size)).setCell (p:=⟨H,0,none⟩) (by have:=HGH.out;have:=HRG.out;show w.heap.size<=H;omega) (.slice a9 (1+ns.length+ns5.length) c9));refine mw 9 (fun Kc hK=>?_);go_simp;refine hK.out _ _ (HGs.out.cell 0) (fun hH=>?_);try simp only[Act.put,ag,ai,aj]
     clear hK Kc k0 k1 k2 x0 hlH hHs;refine wpAnyH_done (by kernel_rfl) ?_ _;generalize w9.setCell ⟨H,0,none⟩ (.slice a9 (1+ns.length+ns5.length) c9)=Ws at *;have k0:=HHs.out.cell 0;have k1:=HHs.out.cell 1;have k2:=HHs.out.cell 2;have g0:=HGs.out.cell 0;have g1:=HGs.out.cell 1;have g2:=HGs.out.cell 2;have y0:=HGs.out.free 0;have y1:=HGs.out.free 1;have y2:=HGs.out.free 2;have gl:=HGs.out.lt;have kl:=HHs.out.lt;simp only[ak,am,au]at k0 k1 k2 g0 g1 g2;go_wp2_with fail
     have hGf:=(((HGs.out.set 0 (.slice a9 (1+ns.length+ns5.length) c9)).set 1 (.int .i64 (nx5:Nat))).set 2 (.bool bad5));simp only[ag,ai,aj]at hGf;have hEf:=(((Ex.refl [G] Ws).set G 0 (.slice a9 (1+ns.length+ns5.length) c9) (by simp)).set G 1 (.int .i64 (nx5:Nat)) (by simp)).set G 2 (.bool bad5) (by simp);have hVf:=((f9.cons (jv W7 2 0) (HV7.out.append HV57.out)).mono fun _ _ h=>((h.keep (Kt.below HB9.out)).keep HKs.out).keep (Kt.at1 hEf HGs.out));go_roundw
     case rel=>
      refine⟨.slice a9 (1+ns.length+ns5.length) c9,⟨2,0,[],0⟩::(ns++ns5),_,nx5,bad5,HRs.out.ex hEf (by simpa using hne),hGf,?_,hVf,HBs.out.trans (hEf.below HBs.out.size (by have:=HRG.out;simp;omega)),?_,HLx.out,fun hb=>?_⟩
      ·rw[show(⟨2,0,[],0⟩::(ns++ns5):List QN).length=1+ns.length+ns5.length by simp;omega]
       have:=nk HOs.out hEf (fun x hx cur=>by rw[cd.1 hx];exact At.no HGs.out (by decide) cur (0,0));rw[dc]at this;exact fx this (by have:=HB7.out.size;have:=HRG.out;have:=Hl7.out;have:=HGH.out;omega)
      ·have:=HLn.out
       have:=HH.out.le;simp;omega
      ·obtain⟨T,hT,hP⟩:=HH.out.cps rfl
       obtain⟨U,hU,hQ⟩:=HLt.out hb;exact⟨.and T U,by rw[hT,hU];rfl,fun T' l hc=>hP T' l (by rw[hud'.out];exact .andOn T u _ U _ T' l huk'.out hQ hc)⟩
     case measure=>rw[jw hGf,jw HH.out.hG];have:=HLn.out;have:=hul'.out;have:=HLx.out;omega
   ·obtain⟨K,hK⟩:∃K,K=ik toks nx:=⟨_,rfl⟩
    rw[<-hK]at hh;have hKn:((K:Int)==3)=false:=by rw[ax];omega
    have hk':=aa hk;clear hK hk;go_wp2_with(go_at_call 55;(with_reducible refine hh.out.mono ?_);rintro e w4⟨rfl,rfl⟩)
    refine ay (v:=.agg #[.slice a ns.length c,.int .i64 (nx:Nat),.bool false]) (by simp[results,results54,go_sem, *]) rfl ?_;refine n7 HH.out.hR ac (Nat.lt_succ_self _) HH.out.le HH.out.lt HH.out.own HH.out.recs HH.out.bl (fun h=>?_);obtain⟨T,hT,hP⟩:=HH.out.cps h;exact⟨T,hT,hP T _ (.andEnd T _ (vz hk'.out))⟩
  ·go_wp2_with fail
   refine ay (v:=.agg #[.slice a ns.length c,.int .i64 (nx:Nat),.bool true]) (by simp[results,results54,go_sem, *]) rfl ?_;exact n7 HH.out.hR ac (Nat.lt_succ_self _) HH.out.le HH.out.lt HH.out.own HH.out.recs HH.out.bl (fun h=>by cases h)
end
section
set_option maxRecDepth 100000
set_option maxHeartbeats 4000000
open Go.RowKit Go.Shelf
abbrev zk(seen rounds:Int)(q:Value)(F sz limit longest:Int)(held:ByteArray)(en:Int)(sr fd:Value):Obj:=
 .cells #[.int .i64 seen,.int .i64 rounds,q,.int .i64 F,.int .i64 sz,.int .i64 limit,.int .i64 longest,.string held,.int .i64 en,sr,fd] 137
structure SrK(w:World)(S k own sb nx kb:Nat)(ad:Option Addr)(cap:Nat)(p:List (Nat->Bool)×Nat)(next:Nat):Prop where
 own_:At w own (.cells #[.slice ad p.1.length cap,.int .i64 (p.2:Nat)] 52)
 sb_:At w sb (.cells #[.pointer (some ⟨S,0,none⟩)] 72)
 nx_:At w nx (.cells #[.int .i64 (next:Nat)] 3)
 kb_:At w kb (.cells #[.int .i64 (k:Nat)] 3)
 row:ft w 100 ad p.1.length (ji p.1)
theorem SrK.ex{w w':World}{S k own sb nx kb:Nat}{ad:Option Addr}{cap:Nat}{p:List (Nat->Bool)×Nat}{next:Nat}{T:List Nat}(h:SrK w S k own sb nx kb ad cap p next)(hb:Ex T w w')(hn:own∉T/\sb∉T/\nx∉T/\kb∉T)(hk:Kt 100 w w'):SrK w' S k own sb nx kb ad cap p next:=
 ⟨h.own_.ex hb hn.1,h.sb_.ex hb hn.2.1,h.nx_.ex hb hn.2.2.1,h.kb_.ex hb hn.2.2.2,h.row.keep hk⟩
theorem SrK.below{w w':World}{S k own sb nx kb:Nat}{ad:Option Addr}{cap:Nat}{p:List (Nat->Bool)×Nat}{next:Nat}(h:SrK w S k own sb nx kb ad cap p next)(hb:Below w.heap.size w w'):SrK w' S k own sb nx kb ad cap p next:=
 h.ex (Ex.of (S:=[]) hb) (by simp) (.below hb)
theorem apc(S k:Nat)(cap:Nat)(K:Nat)(l:List (Nat->Bool))(hl:l.length<=1000)(ad:Option Addr)(w:World)(hT:ft w 100 ad l.length (ji l)):
 Calls prog 110 #[.pointer (some ⟨S,0,none⟩),.int .i64 (k:Nat),lv ad l.length cap (K:Nat)] w fun e w'=>∃own sb nx kb ad' cap',e=.returned (s7 own sb nx kb)/\SrK w' S k own sb nx kb ad' cap' (l,K) 0/\(w.heap.size<=own/\w.heap.size<=sb/\w.heap.size<=nx/\w.heap.size<=kb)/\nx≠kb/\Below w.heap.size w w':=by
 have h1:=aa fun w'(h:fm w' ad l.length (gc l) w'.heap.size)=>acs ad cap l hl w' h
 have hR:=hT.rowC;have HR:=aa hR;clear hR hT;go_enter func110,ntmps110;go_wp2_with fail
 have hA:Below w.heap.size w (((w.alloc (.cells #[.pointer (some ⟨S,0,none⟩)] 72)).alloc (.cells #[.int .i64 (k:Nat)] 3)).alloc (.cells #[.slice ad l.length cap,.int .i64 (K:Nat)] 52)):=((ae.alloc ac _).alloc (by simp) _).alloc (by simp;omega) _;have hs:=((At.new w (.cells #[.pointer (some ⟨S,0,none⟩)] 72)).alloc (.cells #[.int .i64 (k:Nat)] 3)).alloc (.cells #[.slice ad l.length cap,.int .i64 (K:Nat)] 52);have hk:=(At.new (w.alloc (.cells #[.pointer (some ⟨S,0,none⟩)] 72)) (.cells #[.int .i64 (k:Nat)] 3)).alloc (.cells #[.slice ad l.length cap,.int .i64 (K:Nat)] 52);have hL:=At.new ((w.alloc (.cells #[.pointer (some ⟨S,0,none⟩)] 72)).alloc (.cells #[.int .i64 (k:Nat)] 3)) (.cells #[.slice ad l.length cap,.int .i64 (K:Nat)] 52);rw[bg]at hk;rw[bg,bg]at hL;have hz:(((w.alloc (.cells #[.pointer (some ⟨S,0,none⟩)] 72)).alloc (.cells #[.int .i64 (k:Nat)] 3)).alloc (.cells #[.slice ad l.length cap,.int .i64 (K:Nat)] 52)).heap.size=w.heap.size+3:=by simp
 generalize (((w.alloc (.cells #[.pointer (some ⟨S,0,none⟩)] 72)).alloc (.cells #[.int .i64 (k:Nat)] 3)).alloc (.cells #[.slice ad l.length cap,.int .i64 (K:Nat)] 52))=W0 at *;have HR0:=aa ((HR.out.below hA ac).mono hA.size);have HA:=aa hA;have HZ:=aa hz;have c0:=hL.cell 0;have c1:=hL.cell 1;have cl:=hL.lt;simp only[ak,am,au]at c0 c1;have HS:=aa hs;have HK:=aa hk;clear hs hk hL hz hA;have hAz:Below W0.heap.size W0 (W0.alloc (.cells #[.slice none 0 0,.int .i64 0] 52)).drew:=((aw _ W0).alloc ac _).drew;have OAz:fo W0 (W0.alloc (.cells #[.slice none 0 0,.int .i64 0] 52)).drew:=fo.of hAz;have hAt:At (W0.alloc (.cells #[.slice none 0 0,.int .i64 0] 52)).drew W0.heap.size (.cells #[.slice none 0 0,.int .i64 0] 52):=At.new _ _;have hAl:W0.heap.size<(W0.alloc (.cells #[.slice none 0 0,.int .i64 0] 52)).drew.heap.size:=by simp
 have HAz:=aa hAz;have HAt:=aa hAt;clear hAz hAt;go_region_held3 (fun w'=>fo W0 w') (first|with_reducible assumption|with_reducible exact fo.start _|with_reducible exact fo.alloc (by with_reducible assumption) _|with_reducible exact fo.of (((show fo W0 _ by with_reducible assumption).2.2.2.setCell (p:=⟨W0.heap.size,0,none⟩) ac _).setCell (p:=⟨W0.heap.size,1,none⟩) ac _)) (first|(go_at_call 161;refine(h1.out W0.drew ((HR0.out.below ((aw _ W0).drew) ac).mono ac)).mono ?_;rintro e w1⟨v1,rfl,ho1,hb1⟩;obtain⟨ad1,cap1,rfl⟩:=ey ho1;have O1:=fo.calld (fo.refl W0) hb1;have al1:=At.new w1 (.cells #[.slice none 0 0,.int .i64 0] 52);have fz1:=al1.free 0;have fz2:=al1.free 1;clear al1)|(go_at_call 161;refine(h1.out (W0.alloc (.cells #[.slice none 0 0,.int .i64 0] 52)).drew ((HR0.out.below HAz.out ac).mono HAz.out.size)).mono ?_;rintro e w1⟨v1,rfl,ho1,hb1⟩;obtain⟨ad1,cap1,rfl⟩:=ey ho1;have O1:=OAz.call hb1;have al2:=aa (HAt.out.below hb1 hAl);have fz1:=al2.out.free 0;have fz2:=al2.out.free 1;have al2l:=al2.out.lt;have e0:=al2.out.cell 0;have e1:=al2.out.cell 1;simp only[ak,am,au]at e0 e1))
 all_goals go_wp2_with fail
 ·have hz:=HZ.out
  have hO:=O1.2.2.2;have hB1:=HA.out.trans (hO.mono HA.out.size);have hz1:=hO.size;go_ret;have hA2:Below w1.heap.size w1 ((w1.alloc (.cells #[.slice ad1 l.length cap1,.int .i64 (K:Nat)] 52)).alloc (.cells #[.int .i64 0] 3)):=(ae.alloc ac _).alloc (by simp) _;refine⟨_,_,_,_,ad1,cap1,rfl,⟨(At.new w1 _).alloc _,((HS.out.below hO (by omega)).alloc _).alloc _,by have:=At.new (w1.alloc (.cells #[.slice ad1 l.length cap1,.int .i64 (K:Nat)] 52)) (.cells #[.int .i64 0] 3);rwa[bg]at this,((HK.out.below hO (by omega)).alloc _).alloc _,(ft.own ho1).keep (Kt.below hA2)⟩,⟨by omega,by omega,by omega,by omega⟩,by omega,(hB1.alloc hB1.size _).alloc (by simp;omega) _⟩
 ·have hz:=HZ.out
  have hO:=O1.2.2.2;have hSS:=(hO.setCell (p:=⟨W0.heap.size,0,none⟩) ac (.slice ad1 l.length cap1)).setCell (p:=⟨W0.heap.size,1,none⟩) ac (.int .i64 (K:Nat));have hB1:=HA.out.trans (hSS.mono HA.out.size);have hz1:=hO.size;have hz2:=al2l;have ho2:=ownsRow_setCell_below (ownsRow_setCell_below ho1 (a:=⟨W0.heap.size,0,none⟩) hAl (.slice ad1 l.length cap1)) (a:=⟨W0.heap.size,1,none⟩) hAl (.int .i64 (K:Nat));have hat:=(al2.out.set 0 (.slice ad1 l.length cap1)).set 1 (.int .i64 (K:Nat));have hsz:((w1.setCell ⟨W0.heap.size,0,none⟩ (.slice ad1 l.length cap1)).setCell ⟨W0.heap.size,1,none⟩ (.int .i64 (K:Nat))).heap.size=w1.heap.size:=by simp
  have hnx:=At.new ((w1.setCell ⟨W0.heap.size,0,none⟩ (.slice ad1 l.length cap1)).setCell ⟨W0.heap.size,1,none⟩ (.int .i64 (K:Nat))) (.cells #[.int .i64 0] 3);rw[hsz]at hnx;go_ret;have hA2:Below _ _ (((w1.setCell ⟨W0.heap.size,0,none⟩ (.slice ad1 l.length cap1)).setCell ⟨W0.heap.size,1,none⟩ (.int .i64 (K:Nat))).alloc (.cells #[.int .i64 0] 3)):=ae.alloc ac _;refine⟨W0.heap.size,w.heap.size,w1.heap.size,w.heap.size+1,ad1,cap1,rfl,⟨hat.alloc _,(HS.out.below hSS (by omega)).alloc _,hnx,(HK.out.below hSS (by omega)).alloc _,(ft.own ho2).keep (Kt.below hA2)⟩,⟨by omega,by omega,by omega,by omega⟩,by omega,hB1.alloc hB1.size _⟩
end
end Go.Proofs.YtjfkmoinldlmaaaGreat
