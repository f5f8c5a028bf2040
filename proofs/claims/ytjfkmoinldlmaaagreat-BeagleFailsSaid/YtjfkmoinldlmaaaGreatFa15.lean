/- The walk of BeagleFails, part 15. Walk of zed.rows. Walk of zed.rows where the text is its own. Walks of zed.Rows and of beagleref09.Rows. Walks of zed.Find and of beagleref09.Find. -/
import Derived.Test.YtjfkmoinldlmaaaGreatFa13
import Derived.Laws.Cover3
namespace Go.Proofs.YtjfkmoinldlmaaaGreat
open Go.Proofs.Tryz
section
set_option maxRecDepth 100000
set_option maxHeartbeats 4000000
open Go.RowKit Go.Shelf
theorem wo(a:Option Addr)(n cap:Nat)(w:World):(binOp .eql 24 (.slice a n cap) (.slice none 0 0)).run prog w=.ok (.bool a.isNone) w:=by
 have h:=run_equal_slice_nil (P:=prog) w 24 3 a n cap underlying24;simp[binOp,h,Result.andThen]
theorem g8(w:World)(e:TypeId)(v:Value)(b:Nat)(hb:b=w.heap.size):∀(j:Nat)u,[v][j]?=some u->(w.alloc (.cells #[v] e)).cell? ((⟨b,0,none⟩:Addr).add j)=some u:=by
 subst hb;exact cell_one_new _ _ _
theorem api(s t:ByteArray)(hs:s.size<=1000)(ht:t.size<=1000)(g o cap:Nat)(w:World)(hR:gg w (some ⟨g,o,none⟩) s.size (gi (kn s s)) w.heap.size):
 Calls prog 182 #[.string s,.string t,.slice (some ⟨g,o,none⟩) s.size cap] w fun e w'=>∃v,e=.returned v/\w'.ownsRow w.heap.size 3 1 v t.size (ga (kn s t))/\Below w.heap.size w w':=by
 have hmk:=make0 t.size (by omega);have hnl:=wo (some ⟨g,o,none⟩) s.size cap;obtain⟨i0,hi,hy0,hy1,hy2⟩:=info_parts (P:=prog) (show(prog.info? 3).map (fun i=>(i.zero,i.size,i.bytes))=some (some (.int .i64 0),1,8)from by kernel_rfl);obtain⟨c,hc⟩:∃c,c=w.heap.size:=⟨_,rfl⟩;obtain⟨W0,hW0⟩:∃W0:World,((((w.alloc (.cells #[.slice (some ⟨g,o,none⟩) s.size cap] 24)).alloc (.cells (madeCells #[.int .i64 0] t.size) 3)).alloc (.cells #[.slice (some ⟨c+1,0,none⟩) 0 t.size] 24)).alloc (.cells #[.int .i64 0] 3)).alloc (.cells #[.int .i64 0] 3)=W0:=⟨_,rfl⟩;have hst:ST w W0 c (.slice (some ⟨g,o,none⟩) s.size cap) s t 0 0 0:=by
  subst hW0;subst hc;have hr:((((w.alloc (.cells #[.slice (some ⟨g,o,none⟩) s.size cap] 24)).alloc (.cells (madeCells #[.int .i64 0] t.size) 3)).alloc (.cells #[.slice (some ⟨w.heap.size+1,0,none⟩) 0 t.size] 24)).alloc (.cells #[.int .i64 0] 3)).alloc (.cells #[.int .i64 0] 3)|>.ownsRow (w.heap.size+1) 3 1 (.slice (some ⟨w.heap.size+1,0,none⟩) 0 t.size) 0 []:=by
   have h:=World.ownsRow_made (e:=3) (base:=w.heap.size+1) (size:=1) (w.alloc (.cells #[.slice (some ⟨g,o,none⟩) s.size cap] 24)) (madeCells #[.int .i64 0] t.size) t.size (by simp) (by unfold maxLen;omega) (by rw[<-Array.length_toList,toList_madeCells_one];simp);rw[bg]at h;exact((h.alloc _).alloc _).alloc _
  have b0:=((((Boxed.new w 24 (.slice (some ⟨g,o,none⟩) s.size cap)).alloc (.cells (madeCells #[.int .i64 0] t.size) 3)).alloc (.cells #[.slice (some ⟨w.heap.size+1,0,none⟩) 0 t.size] 24)).alloc (.cells #[.int .i64 0] 3)).alloc (.cells #[.int .i64 0] 3);have b2:=((Boxed.new ((w.alloc (.cells #[.slice (some ⟨g,o,none⟩) s.size cap] 24)).alloc (.cells (madeCells #[.int .i64 0] t.size) 3)) 24 (.slice (some ⟨w.heap.size+1,0,none⟩) 0 t.size)).alloc (.cells #[.int .i64 0] 3)).alloc (.cells #[.int .i64 0] 3);have b3:=(Boxed.new (((w.alloc (.cells #[.slice (some ⟨g,o,none⟩) s.size cap] 24)).alloc (.cells (madeCells #[.int .i64 0] t.size) 3)).alloc (.cells #[.slice (some ⟨w.heap.size+1,0,none⟩) 0 t.size] 24)) 3 (.int .i64 0)).alloc (.cells #[.int .i64 0] 3);have b4:=Boxed.new ((((w.alloc (.cells #[.slice (some ⟨g,o,none⟩) s.size cap] 24)).alloc (.cells (madeCells #[.int .i64 0] t.size) 3)).alloc (.cells #[.slice (some ⟨w.heap.size+1,0,none⟩) 0 t.size] 24)).alloc (.cells #[.int .i64 0] 3)) 3 (.int .i64 0);simp only[bg,dy,Nat.reduceAdd]at b2 b3 b4;exact{ow:=b0,row:=hr,ob:=b2,fb:=b3,tb:=b4,be:=(((((aw _ w).alloc ac _).alloc (by simp) _).alloc (by simp;omega) _).alloc (by simp;omega) _).alloc (by simp;omega) _,sz:=by simp}
 have hcw:c<=w.heap.size:=by omega
 have HCW:=aa hc;go_enter func182,ntmps182;go_wp2_with fail
 rw[<-hc,hW0];clear hW0 hmk hc;simp only[dy,Nat.reduceAdd];go_loopw[19] (fun x wr=>∃k fr to:Nat,k<=t.size/\x=.int .i64 k/\wh s t fr to k/\ST w wr c (.slice (some ⟨g,o,none⟩) s.size cap) s t k fr to) (fun x _=>t.size-(intOf x).toNat)
 case atStart=>exact⟨0,0,0,by omega,rfl,wh.start s t,hst⟩
 case round=>
  obtain⟨k,fr,to,hk,rfl,hz,hst⟩:=hrel;by_cases hlt:k<t.size
  ·have hlti:(k:Int)<t.size:=by omega
   have hcall:∃V0:Nat,(∀j,j<V0->good s t k j=true)/\Calls prog 219 #[.int .i64 (k:Nat),.pointer (some ⟨c+4,0,none⟩),.pointer (some ⟨c,0,none⟩),.pointer (some ⟨c+3,0,none⟩),.pointer (some ⟨c+2,0,none⟩)] wr fun e w'=>e=.returned (.int .i64 (V0:Nat))/\Below wr.heap.size wr w':=by
    by_cases hkt:to<=k
    ·exact⟨0,fun j hj=>by omega,x7 k to (c+4) c (c+3) (c+2) hkt wr hst.tb⟩
    ·have hzt:=hz.tt
     have hzs:=hz.ts;have hzf:=hz.fi;have hkf:k-fr<s.size:=by omega
     obtain⟨b',o',hbo,_,hcell⟩:=(hR.below hst.be (by have:=HCW.out;omega)).at hkf;cases hbo;refine⟨min (lc s s (k-fr)) (to-k),fun j hj=>hz.good (by omega) (by omega) (by omega),?_⟩;have h:=apa k fr to (c+4) c (c+3) (c+2) (by omega) (by omega) hzf g o s.size cap (gi (kn s s)) hkf wr hst.tb hst.fb hst.ow hcell;rw[aat s s (k-fr) hkf,show min ((lc s s (k-fr):Nat):Int) ((to:Int)-k)=((min (lc s s (k-fr)) (to-k):Nat):Int) by omega]at h;exact h
   obtain⟨V0,hV,hcl⟩:=hcall;have HCL:=aa hcl;have hVm:V0<=lc s t k:=by
    rcases Nat.lt_or_ge (lc s t k) V0 with h|h
    ·have h1:=hV _ h
     rw[(np s t k).2]at h1;cases h1
    ·exact h
   clear hcl hV;go_wp2_with(go_at_call 219;refine HCL.out.mono ?_;rintro e w1⟨rfl,hb1⟩)
   have hst1:=hst.below hb1;have HG:=aa (np s t k);have hml:=lc_le s t k;have hmf:=aab s t k (by omega);have HTK:=aa (vq s t k hlt);have hzn:=hz.next
   have hzw:=wh.new s t k (by omega);clear hst hb1 HCL;obtain⟨m,hm⟩:∃m,m=lc s t k:=⟨_,rfl⟩;rw[<-hm]at hVm HG hml hmf HTK hzw;clear hm;go_loopw[12] (fun x w2=>∃q:Nat,q<=m/\x=.int .i64 q/\fo w1 w2) (fun x _=>m-(intOf x).toNat)
   case atStart=>exact⟨V0,hVm,rfl,fo.refl _⟩
   case round=>
    obtain⟨q,hq,rfl,hO⟩:=hrel;have hst2:=hst1.below hO.2.2.2;have HO:=aa hO;clear hO hst1;have d0:=hst2.ow.cell;have hq0:(0:Int)<=q:=by omega
    have hw:IntKind.i64.wrap ((k:Int)+q)=(k:Int)+q:=by rw[ci];omega
    have hkq0:(0:Int)<=(k:Int)+q:=by omega
    have htn:((k:Int)+q).toNat=k+q:=by omega
    by_cases hqm:q<m
    ·obtain⟨g1,g2,g3⟩:=(js _ _ _ _).1 (HG.out.1 q hqm)
     have g1i:(q:Int)<s.size:=by omega
     have g2i:(k:Int)+q<t.size:=by omega
     have g3b:s[q].toNat=t[k+q].toNat:=by rw[ia s q g1,ia t (k+q) g2];exact g3
     clear g3;go_wp2_with fail
     first|(go_quiet(fail))|fail
     go_wp2;exact⟨⟨q+1,by omega,by go_num,HO.out.trans (fo.of (cu ae _))⟩,by simp[intOf];omega⟩
    ·obtain rfl:q=m:=by omega
     have hbad:=HG.out.2;have hst2d:∀x,ST w (wr.drewN x) c (.slice (some ⟨g,o,none⟩) s.size cap) s t k fr to:=fun x=>hst2.below (cu ae x)
     have d1:=hst2.tb.cell;have d2:=hst2.ob.cell;have d3:=hst2.tb.frozen;have d4:=hst2.fb.cell;have d5:=hst2.fb.frozen;have HD:=aa hst2d;clear hst2d;by_cases hA:q<s.size
     ·have hAi:(q:Int)<s.size:=by omega
      by_cases hBq:k+q<t.size
      ·have hBi:(k:Int)+q<t.size:=by omega
       have hne:¬(s[q].toNat=t[k+q].toNat):=by
        rw[ia s q hA,ia t (k+q) hBq];intro h;rw[(js _ _ _ _).2 ⟨hA,hBq,h⟩]at hbad;cases hbad
       clear hbad;by_cases hgt:to<k+q
       ·have hgi:(to:Int)<(k:Int)+q:=by omega
        go_wp2_with fail
        have hq2:(((s[q].toNat:Nat):Int)==((t[k+q].toNat:Nat):Int))=false:=by simp only[ax,ne_eq,Int.natCast_inj];exact hne
        first|(go_quiet(fail))|fail
        go_wp2_with(first|(at_builtin;refine wpList_append_fits _ rfl _ _ 24 rfl (c+1) 3 i0 1 underlying24 hi hy1 (c+1) k t.size _ rfl (((HD.out _).set k (k+q)).row.alloc _) ⟨wr.heap.size,0,none⟩ 1 1 [.int .i64 (q:Nat)] rfl rfl (g8 _ _ _ _ (by simp)) (by simp[Value.oneCell']) (by omega) ?_;intro w5 hown5 hg5;obtain⟨hb5,hst6⟩:=((HD.out _).set k (k+q)).app hg5 (by rw[HTK.out,gz];exact hown5);have g5:=hb5.cell;have f5:=hb5.frozen))
        exact⟨⟨k+1,k,k+q,by omega,by go_num,hzw,hst6⟩,by simp[intOf];omega⟩
       ·have hgi:¬((to:Int)<(k:Int)+q):=by omega
        go_wp2_with fail
        have hq2:(((s[q].toNat:Nat):Int)==((t[k+q].toNat:Nat):Int))=false:=by simp only[ax,ne_eq,Int.natCast_inj];exact hne
        first|(go_quiet(fail))|fail
        go_wp2_with(first|(at_builtin;refine wpList_append_fits _ rfl _ _ 24 rfl (c+1) 3 i0 1 underlying24 hi hy1 (c+1) k t.size _ rfl ((HD.out _).row.alloc _) ⟨wr.heap.size,0,none⟩ 1 1 [.int .i64 (q:Nat)] rfl rfl (g8 _ _ _ _ (by simp)) (by simp[Value.oneCell']) (by omega) ?_;intro w5 hown5 hg5;obtain⟨hb5,hst6⟩:=(HD.out _).app hg5 (by rw[HTK.out,gz];exact hown5);have g5:=hb5.cell;have f5:=hb5.frozen))
        exact⟨⟨k+1,fr,to,by omega,by go_num,hzn,hst6⟩,by simp[intOf];omega⟩
      ·have hBi:¬((k:Int)+q<t.size):=by omega
       clear hbad;by_cases hgt:to<k+q
       ·have hgi:(to:Int)<(k:Int)+q:=by omega
        go_wp2_with fail
        have hq2:decide ((k:Int)+q<t.size)=false:=by simp only[dw];omega
        first|(go_quiet(fail))|fail
        go_wp2_with(first|(at_builtin;refine wpList_append_fits _ rfl _ _ 24 rfl (c+1) 3 i0 1 underlying24 hi hy1 (c+1) k t.size _ rfl (((HD.out _).set k (k+q)).row.alloc _) ⟨wr.heap.size,0,none⟩ 1 1 [.int .i64 (q:Nat)] rfl rfl (g8 _ _ _ _ (by simp)) (by simp[Value.oneCell']) (by omega) ?_;intro w5 hown5 hg5;obtain⟨hb5,hst6⟩:=((HD.out _).set k (k+q)).app hg5 (by rw[HTK.out,gz];exact hown5);have g5:=hb5.cell;have f5:=hb5.frozen))
        exact⟨⟨k+1,k,k+q,by omega,by go_num,hzw,hst6⟩,by simp[intOf];omega⟩
       ·have hgi:¬((to:Int)<(k:Int)+q):=by omega
        go_wp2_with fail
        have hq2:decide ((k:Int)+q<t.size)=false:=by simp only[dw];omega
        first|(go_quiet(fail))|fail
        go_wp2_with(first|(at_builtin;refine wpList_append_fits _ rfl _ _ 24 rfl (c+1) 3 i0 1 underlying24 hi hy1 (c+1) k t.size _ rfl ((HD.out _).row.alloc _) ⟨wr.heap.size,0,none⟩ 1 1 [.int .i64 (q:Nat)] rfl rfl (g8 _ _ _ _ (by simp)) (by simp[Value.oneCell']) (by omega) ?_;intro w5 hown5 hg5;obtain⟨hb5,hst6⟩:=(HD.out _).app hg5 (by rw[HTK.out,gz];exact hown5);have g5:=hb5.cell;have f5:=hb5.frozen))
        exact⟨⟨k+1,fr,to,by omega,by go_num,hzn,hst6⟩,by simp[intOf];omega⟩
     ·have hAi:¬((q:Int)<s.size):=by omega
      clear hbad;by_cases hgt:to<k+q
      ·have hgi:(to:Int)<(k:Int)+q:=by omega
       go_wp2_with fail
       first|(go_quiet(fail))|fail
       go_wp2_with(first|(at_builtin;refine wpList_append_fits _ rfl _ _ 24 rfl (c+1) 3 i0 1 underlying24 hi hy1 (c+1) k t.size _ rfl (((HD.out _).set k (k+q)).row.alloc _) ⟨wr.heap.size,0,none⟩ 1 1 [.int .i64 (q:Nat)] rfl rfl (g8 _ _ _ _ (by simp)) (by simp[Value.oneCell']) (by omega) ?_;intro w5 hown5 hg5;obtain⟨hb5,hst6⟩:=((HD.out _).set k (k+q)).app hg5 (by rw[HTK.out,gz];exact hown5);have g5:=hb5.cell;have f5:=hb5.frozen))
       exact⟨⟨k+1,k,k+q,by omega,by go_num,hzw,hst6⟩,by simp[intOf];omega⟩
      ·have hgi:¬((to:Int)<(k:Int)+q):=by omega
       go_wp2_with fail
       first|(go_quiet(fail))|fail
       go_wp2_with(first|(at_builtin;refine wpList_append_fits _ rfl _ _ 24 rfl (c+1) 3 i0 1 underlying24 hi hy1 (c+1) k t.size _ rfl ((HD.out _).row.alloc _) ⟨wr.heap.size,0,none⟩ 1 1 [.int .i64 (q:Nat)] rfl rfl (g8 _ _ _ _ (by simp)) (by simp[Value.oneCell']) (by omega) ?_;intro w5 hown5 hg5;obtain⟨hb5,hst6⟩:=(HD.out _).app hg5 (by rw[HTK.out,gz];exact hown5);have g5:=hb5.cell;have f5:=hb5.frozen))
       exact⟨⟨k+1,fr,to,by omega,by go_num,hzn,hst6⟩,by simp[intOf];omega⟩
  ·obtain rfl:k=t.size:=by omega
   have d2:=hst.ob.cell;go_wp2;go_ret;exact⟨_,rfl,fx (by have h:=hst.row;rwa[List.take_of_length_le (by rw[lg];exact ac)]at h) (by have:=HCW.out;omega),hst.be.mono (by have:=HCW.out;omega)⟩
end
section
set_option maxRecDepth 100000
set_option maxHeartbeats 4000000
open Go.RowKit Go.Shelf
theorem apj(s t:ByteArray)(hE:s=t)(hs:s.size<=1000)(w:World):
 Calls prog 182 #[.string s,.string t,.slice none 0 0] w fun e w'=>∃v,e=.returned v/\w'.ownsRow w.heap.size 3 1 v t.size (ga (kn s t))/\Below w.heap.size w w':=by
 have ht:t.size<=1000:=by rw[<-hE];exact hs
 have HE:=aa hE;clear hE;have hmk:=make0 t.size (by omega);have hnl:=wo none 0 0;obtain⟨i0,hi,hy0,hy1,hy2⟩:=info_parts (P:=prog) (show(prog.info? 3).map (fun i=>(i.zero,i.size,i.bytes))=some (some (.int .i64 0),1,8)from by kernel_rfl);obtain⟨c,hc⟩:∃c,c=w.heap.size:=⟨_,rfl⟩;obtain⟨W0,hW0⟩:∃W0:World,((((w.alloc (.cells #[.slice none 0 0] 24)).alloc (.cells (madeCells #[.int .i64 0] t.size) 3)).alloc (.cells #[.slice (some ⟨c+1,0,none⟩) 0 t.size] 24)).alloc (.cells #[.int .i64 0] 3)).alloc (.cells #[.int .i64 0] 3)=W0:=⟨_,rfl⟩;have hst:ST w W0 c (.slice none 0 0) s t 0 0 0:=by
  subst hW0;subst hc;have hr:((((w.alloc (.cells #[.slice none 0 0] 24)).alloc (.cells (madeCells #[.int .i64 0] t.size) 3)).alloc (.cells #[.slice (some ⟨w.heap.size+1,0,none⟩) 0 t.size] 24)).alloc (.cells #[.int .i64 0] 3)).alloc (.cells #[.int .i64 0] 3)|>.ownsRow (w.heap.size+1) 3 1 (.slice (some ⟨w.heap.size+1,0,none⟩) 0 t.size) 0 []:=by
   have h:=World.ownsRow_made (e:=3) (base:=w.heap.size+1) (size:=1) (w.alloc (.cells #[.slice none 0 0] 24)) (madeCells #[.int .i64 0] t.size) t.size (by simp) (by unfold maxLen;omega) (by rw[<-Array.length_toList,toList_madeCells_one];simp);rw[bg]at h;exact((h.alloc _).alloc _).alloc _
  have b0:=((((Boxed.new w 24 (.slice none 0 0)).alloc (.cells (madeCells #[.int .i64 0] t.size) 3)).alloc (.cells #[.slice (some ⟨w.heap.size+1,0,none⟩) 0 t.size] 24)).alloc (.cells #[.int .i64 0] 3)).alloc (.cells #[.int .i64 0] 3);have b2:=((Boxed.new ((w.alloc (.cells #[.slice none 0 0] 24)).alloc (.cells (madeCells #[.int .i64 0] t.size) 3)) 24 (.slice (some ⟨w.heap.size+1,0,none⟩) 0 t.size)).alloc (.cells #[.int .i64 0] 3)).alloc (.cells #[.int .i64 0] 3);have b3:=(Boxed.new (((w.alloc (.cells #[.slice none 0 0] 24)).alloc (.cells (madeCells #[.int .i64 0] t.size) 3)).alloc (.cells #[.slice (some ⟨w.heap.size+1,0,none⟩) 0 t.size] 24)) 3 (.int .i64 0)).alloc (.cells #[.int .i64 0] 3);have b4:=Boxed.new ((((w.alloc (.cells #[.slice none 0 0] 24)).alloc (.cells (madeCells #[.int .i64 0] t.size) 3)).alloc (.cells #[.slice (some ⟨w.heap.size+1,0,none⟩) 0 t.size] 24)).alloc (.cells #[.int .i64 0] 3)) 3 (.int .i64 0);simp only[bg,dy,Nat.reduceAdd]at b2 b3 b4;exact{ow:=b0,row:=hr,ob:=b2,fb:=b3,tb:=b4,be:=(((((aw _ w).alloc ac _).alloc (by simp) _).alloc (by simp;omega) _).alloc (by simp;omega) _).alloc (by simp;omega) _,sz:=by simp}
 have hcw:c<=w.heap.size:=by omega
 have HCW:=aa hc;go_enter func182,ntmps182;go_wp2_with fail
 rw[<-hc,hW0];clear hW0 hmk hc;simp only[dy,Nat.reduceAdd];go_loopw[19] (fun x wr=>∃k fr to:Nat,k<=t.size/\x=.int .i64 k/\wh s t fr to k/\(0<fr\/to=0)/\ST w wr c (.slice none 0 0) s t k fr to) (fun x _=>t.size-(intOf x).toNat)
 case atStart=>exact⟨0,0,0,by omega,rfl,wh.start s t,.inr rfl,hst⟩
 case round=>
  obtain⟨k,fr,to,hk,rfl,hz,hfz,hst⟩:=hrel;by_cases hlt:k<t.size
  ·have hlti:(k:Int)<t.size:=by omega
   have hcall:∃V0:Nat,(∀j,j<V0->good s t k j=true)/\Calls prog 219 #[.int .i64 (k:Nat),.pointer (some ⟨c+4,0,none⟩),.pointer (some ⟨c,0,none⟩),.pointer (some ⟨c+3,0,none⟩),.pointer (some ⟨c+2,0,none⟩)] wr fun e w'=>e=.returned (.int .i64 (V0:Nat))/\Below wr.heap.size wr w':=by
    by_cases hkt:to<=k
    ·exact⟨0,fun j hj=>by omega,x7 k to (c+4) c (c+3) (c+2) hkt wr hst.tb⟩
    ·have hzt:=hz.tt
     have hzs:=hz.ts;have hzf:=hz.fi;have hkf:k-fr<k:=by omega
     have hcell:=hst.row.cellAt (k-fr) (by omega);have hlen:((kn s t).take k).length=k:=by rw[List.length_take,lg];omega
     rw[acp _ _ (by rw[hlen];exact hkf)]at hcell;have hgg:gi ((kn s t).take k) (k-fr)=gi (kn s t) (k-fr):=by unfold gi;rw[List.getElem?_take_of_lt hkf]
     rw[hgg]at hcell;refine⟨min (lc s s (k-fr)) (to-k),fun j hj=>hz.good (by omega) (by omega) (by omega),?_⟩;have h:=apb k fr to (c+4) c (c+3) (c+2) (by omega) (by omega) hzf (c+1) 0 k t.size (gi (kn s t)) hkf wr hst.tb hst.fb hst.ow hst.ob (by rw[dg];exact hcell);rw[aat s t (k-fr) (by omega),<-HE.out,show min ((lc s s (k-fr):Nat):Int) ((to:Int)-k)=((min (lc s s (k-fr)) (to-k):Nat):Int) by omega]at h;exact h
   by_cases hk0:k=0
   ·subst hk0
    have hto:to=0:=by have:=hz.fi;omega
    have hfr:fr=0:=by have:=hz.fi;omega
    subst hto;subst hfr;have hcl:=aa (x7 0 0 (c+4) c (c+3) (c+2) (by omega) wr hst.tb);have hts:(kn s t).take (0+1)=(kn s t).take 0++[((s.size:Nat):Int)]:=by
     rw[vq s t 0 hlt];have e:lc s t 0=s.size:=by rw[<-HE.out];exact lc_self s
     rw[e]
    have HTS:=aa hts;clear hts hcall;have hs0:(0:Int)<s.size:=by rw[HE.out];exact hlti
    have hs00:0<s.size:=by omega
    have hbb:s[0].toNat=t[0].toNat:=by rw[ia s 0 hs00,ia t 0 hlt,HE.out]
    go_wp2_with(go_at_call 219;refine hcl.out.mono ?_;rintro e w1⟨rfl,hb1⟩)
    have hst1:=hst.below hb1;clear hst hb1 hcl;go_loopw[12] (fun x w2=>x=.int .i64 0/\fo w1 w2) (fun _ _=>0)
    case atStart=>exact⟨rfl,fo.refl _⟩
    case round=>
     obtain⟨rfl,hO⟩:=hrel;have hst2:=hst1.below hO.2.2.2;have HO:=aa hO;clear hO hst1;have d0:=hst2.ow.cell;have hst2d:∀x,ST w (wr.drewN x) c (.slice none 0 0) s t 0 0 0:=fun x=>hst2.below (cu ae x)
     have d2:=hst2.ob.cell;have HD:=aa hst2d;clear hst2d;go_wp2_with fail
     first|(go_quiet(fail))|fail
     go_wp2_with(first|(at_builtin;refine wpList_append_fits _ rfl _ _ 24 rfl (c+1) 3 i0 1 underlying24 hi hy1 (c+1) 0 t.size _ rfl ((HD.out _).row.alloc _) ⟨wr.heap.size,0,none⟩ 1 1 [.int .i64 (s.size:Nat)] rfl rfl (g8 _ _ _ _ (by simp)) (by simp[Value.oneCell']) (by omega) ?_;intro w5 hown5 hg5;obtain⟨hb5,hst6⟩:=(HD.out _).app hg5 (by rw[HTS.out,gz];exact hown5);have g5:=hb5.cell;have f5:=hb5.frozen))
     exact⟨⟨1,0,0,by omega,by go_num,hz.next,.inr rfl,hst6⟩,by simp[intOf];omega⟩
   have hk0i:(0:Int)<k:=by omega
   have hk0n:¬((k:Int)=0):=by omega
   have hk0b:((k:Int)==0)=false:=by simp;omega
   obtain⟨V0,hV,hcl⟩:=hcall;have HCL:=aa hcl;have hVm:V0<=lc s t k:=by
    rcases Nat.lt_or_ge (lc s t k) V0 with h|h
    ·have h1:=hV _ h
     rw[(np s t k).2]at h1;cases h1
    ·exact h
   clear hcl hV;go_wp2_with(go_at_call 219;refine HCL.out.mono ?_;rintro e w1⟨rfl,hb1⟩)
   have hst1:=hst.below hb1;have HG:=aa (np s t k);have hml:=lc_le s t k;have hmf:=aab s t k (by omega);have HTK:=aa (vq s t k hlt);have hzn:=hz.next
   have hzw:=wh.new s t k (by omega);clear hst hb1 HCL;obtain⟨m,hm⟩:∃m,m=lc s t k:=⟨_,rfl⟩;rw[<-hm]at hVm HG hml hmf HTK hzw;clear hm;go_loopw[12] (fun x w2=>∃q:Nat,q<=m/\x=.int .i64 q/\fo w1 w2) (fun x _=>m-(intOf x).toNat)
   case atStart=>exact⟨V0,hVm,rfl,fo.refl _⟩
   case round=>
    obtain⟨q,hq,rfl,hO⟩:=hrel;have hst2:=hst1.below hO.2.2.2;have HO:=aa hO;clear hO hst1;have d0:=hst2.ow.cell;have hq0:(0:Int)<=q:=by omega
    have hw:IntKind.i64.wrap ((k:Int)+q)=(k:Int)+q:=by rw[ci];omega
    have hkq0:(0:Int)<=(k:Int)+q:=by omega
    have htn:((k:Int)+q).toNat=k+q:=by omega
    by_cases hqm:q<m
    ·obtain⟨g1,g2,g3⟩:=(js _ _ _ _).1 (HG.out.1 q hqm)
     have g1i:(q:Int)<s.size:=by omega
     have g2i:(k:Int)+q<t.size:=by omega
     have g3b:s[q].toNat=t[k+q].toNat:=by rw[ia s q g1,ia t (k+q) g2];exact g3
     clear g3;go_wp2_with fail
     first|(go_quiet(fail))|fail
     go_wp2;exact⟨⟨q+1,by omega,by go_num,HO.out.trans (fo.of (cu ae _))⟩,by simp[intOf];omega⟩
    ·obtain rfl:q=m:=by omega
     have hbad:=HG.out.2;have hst2d:∀x,ST w (wr.drewN x) c (.slice none 0 0) s t k fr to:=fun x=>hst2.below (cu ae x)
     have d1:=hst2.tb.cell;have d2:=hst2.ob.cell;have d3:=hst2.tb.frozen;have d4:=hst2.fb.cell;have d5:=hst2.fb.frozen;have HD:=aa hst2d;clear hst2d;by_cases hA:q<s.size
     ·have hAi:(q:Int)<s.size:=by omega
      by_cases hBq:k+q<t.size
      ·have hBi:(k:Int)+q<t.size:=by omega
       have hne:¬(s[q].toNat=t[k+q].toNat):=by
        rw[ia s q hA,ia t (k+q) hBq];intro h;rw[(js _ _ _ _).2 ⟨hA,hBq,h⟩]at hbad;cases hbad
       clear hbad;by_cases hgt:to<k+q
       ·have hgi:(to:Int)<(k:Int)+q:=by omega
        go_wp2_with fail
        have hq2:(((s[q].toNat:Nat):Int)==((t[k+q].toNat:Nat):Int))=false:=by simp only[ax,ne_eq,Int.natCast_inj];exact hne
        first|(go_quiet(fail))|fail
        go_wp2_with(first|(at_builtin;refine wpList_append_fits _ rfl _ _ 24 rfl (c+1) 3 i0 1 underlying24 hi hy1 (c+1) k t.size _ rfl (((HD.out _).set k (k+q)).row.alloc _) ⟨wr.heap.size,0,none⟩ 1 1 [.int .i64 (q:Nat)] rfl rfl (g8 _ _ _ _ (by simp)) (by simp[Value.oneCell']) (by omega) ?_;intro w5 hown5 hg5;obtain⟨hb5,hst6⟩:=((HD.out _).set k (k+q)).app hg5 (by rw[HTK.out,gz];exact hown5);have g5:=hb5.cell;have f5:=hb5.frozen))
        exact⟨⟨k+1,k,k+q,by omega,by go_num,hzw,.inl (by omega),hst6⟩,by simp[intOf];omega⟩
       ·have hgi:¬((to:Int)<(k:Int)+q):=by omega
        go_wp2_with fail
        have hq2:(((s[q].toNat:Nat):Int)==((t[k+q].toNat:Nat):Int))=false:=by simp only[ax,ne_eq,Int.natCast_inj];exact hne
        first|(go_quiet(fail))|fail
        go_wp2_with(first|(at_builtin;refine wpList_append_fits _ rfl _ _ 24 rfl (c+1) 3 i0 1 underlying24 hi hy1 (c+1) k t.size _ rfl ((HD.out _).row.alloc _) ⟨wr.heap.size,0,none⟩ 1 1 [.int .i64 (q:Nat)] rfl rfl (g8 _ _ _ _ (by simp)) (by simp[Value.oneCell']) (by omega) ?_;intro w5 hown5 hg5;obtain⟨hb5,hst6⟩:=(HD.out _).app hg5 (by rw[HTK.out,gz];exact hown5);have g5:=hb5.cell;have f5:=hb5.frozen))
        exact⟨⟨k+1,fr,to,by omega,by go_num,hzn,hfz,hst6⟩,by simp[intOf];omega⟩
      ·have hBi:¬((k:Int)+q<t.size):=by omega
       clear hbad;by_cases hgt:to<k+q
       ·have hgi:(to:Int)<(k:Int)+q:=by omega
        go_wp2_with fail
        have hq2:decide ((k:Int)+q<t.size)=false:=by simp only[dw];omega
        first|(go_quiet(fail))|fail
        go_wp2_with(first|(at_builtin;refine wpList_append_fits _ rfl _ _ 24 rfl (c+1) 3 i0 1 underlying24 hi hy1 (c+1) k t.size _ rfl (((HD.out _).set k (k+q)).row.alloc _) ⟨wr.heap.size,0,none⟩ 1 1 [.int .i64 (q:Nat)] rfl rfl (g8 _ _ _ _ (by simp)) (by simp[Value.oneCell']) (by omega) ?_;intro w5 hown5 hg5;obtain⟨hb5,hst6⟩:=((HD.out _).set k (k+q)).app hg5 (by rw[HTK.out,gz];exact hown5);have g5:=hb5.cell;have f5:=hb5.frozen))
        exact⟨⟨k+1,k,k+q,by omega,by go_num,hzw,.inl (by omega),hst6⟩,by simp[intOf];omega⟩
       ·have hgi:¬((to:Int)<(k:Int)+q):=by omega
        go_wp2_with fail
        have hq2:decide ((k:Int)+q<t.size)=false:=by simp only[dw];omega
        first|(go_quiet(fail))|fail
        go_wp2_with(first|(at_builtin;refine wpList_append_fits _ rfl _ _ 24 rfl (c+1) 3 i0 1 underlying24 hi hy1 (c+1) k t.size _ rfl ((HD.out _).row.alloc _) ⟨wr.heap.size,0,none⟩ 1 1 [.int .i64 (q:Nat)] rfl rfl (g8 _ _ _ _ (by simp)) (by simp[Value.oneCell']) (by omega) ?_;intro w5 hown5 hg5;obtain⟨hb5,hst6⟩:=(HD.out _).app hg5 (by rw[HTK.out,gz];exact hown5);have g5:=hb5.cell;have f5:=hb5.frozen))
        exact⟨⟨k+1,fr,to,by omega,by go_num,hzn,hfz,hst6⟩,by simp[intOf];omega⟩
     ·have hAi:¬((q:Int)<s.size):=by omega
      clear hbad;by_cases hgt:to<k+q
      ·have hgi:(to:Int)<(k:Int)+q:=by omega
       go_wp2_with fail
       first|(go_quiet(fail))|fail
       go_wp2_with(first|(at_builtin;refine wpList_append_fits _ rfl _ _ 24 rfl (c+1) 3 i0 1 underlying24 hi hy1 (c+1) k t.size _ rfl (((HD.out _).set k (k+q)).row.alloc _) ⟨wr.heap.size,0,none⟩ 1 1 [.int .i64 (q:Nat)] rfl rfl (g8 _ _ _ _ (by simp)) (by simp[Value.oneCell']) (by omega) ?_;intro w5 hown5 hg5;obtain⟨hb5,hst6⟩:=((HD.out _).set k (k+q)).app hg5 (by rw[HTK.out,gz];exact hown5);have g5:=hb5.cell;have f5:=hb5.frozen))
       exact⟨⟨k+1,k,k+q,by omega,by go_num,hzw,.inl (by omega),hst6⟩,by simp[intOf];omega⟩
      ·have hgi:¬((to:Int)<(k:Int)+q):=by omega
       go_wp2_with fail
       first|(go_quiet(fail))|fail
       go_wp2_with(first|(at_builtin;refine wpList_append_fits _ rfl _ _ 24 rfl (c+1) 3 i0 1 underlying24 hi hy1 (c+1) k t.size _ rfl ((HD.out _).row.alloc _) ⟨wr.heap.size,0,none⟩ 1 1 [.int .i64 (q:Nat)] rfl rfl (g8 _ _ _ _ (by simp)) (by simp[Value.oneCell']) (by omega) ?_;intro w5 hown5 hg5;obtain⟨hb5,hst6⟩:=(HD.out _).app hg5 (by rw[HTK.out,gz];exact hown5);have g5:=hb5.cell;have f5:=hb5.frozen))
       exact⟨⟨k+1,fr,to,by omega,by go_num,hzn,hfz,hst6⟩,by simp[intOf];omega⟩
  ·obtain rfl:k=t.size:=by omega
   have d2:=hst.ob.cell;go_wp2;go_ret;exact⟨_,rfl,fx (by have h:=hst.row;rwa[List.take_of_length_le (by rw[lg];exact ac)]at h) (by have:=HCW.out;omega),hst.be.mono (by have:=HCW.out;omega)⟩
end
section
set_option maxRecDepth 100000
open Go.RowKit Go.Shelf
theorem ak2(s:ByteArray)(hs:s.size<=1000)(w:World):
 Calls prog 183 #[.string s] w fun e w'=>∃v,e=.returned v/\w'.ownsRow w.heap.size 3 1 v s.size (ga (kn s s))/\Below w.heap.size w w':=by
 go_enter func183,ntmps183;go_wp2_with(go_at_call 182;refine(apj s s rfl hs _).mono ?_;rintro e w1⟨v,rfl,ho,hb⟩)
 go_ret;exact⟨v,rfl,ho,hb⟩
end
section
set_option maxRecDepth 100000
set_option maxHeartbeats 4000000
open Go.RowKit Go.Shelf
theorem ak4(p t:ByteArray)(hp:p.size<=1000)(ht:t.size<=1000)(w:World):
 Calls prog 140 #[.string p,.string t] w fun e w'=>∃v,e=.returned v/\w'.ownsRow w.heap.size 3 1 v (zf p t).length (ga (zf p t))/\Below w.heap.size w w':=by
 by_cases hp0:p.size=0
 ·have he:=vg p hp0
  have hz:zf p t=[]:=by unfold zf;rw[if_pos hp0]
  rw[hz];clear hz hp0;go_enter func140,ntmps140;go_wp2_with fail
  go_ret;exact⟨_,rfl,bj _ _ _ _,ae⟩
 ·have he:=sg p (by omega)
  have hz:zf p t=ru p t t.size:=by unfold zf;rw[if_neg hp0]
  rw[hz];clear hz;go_enter func140,ntmps140;go_wp2_with fail
  refine(ak2 p hp _).mono ?_;rintro e w1⟨v1,rfl,ho1,hb1⟩;obtain⟨g1,cp1,rfl,_,_⟩:=oa ho1 (by omega);have hlen:(kn p p).length=p.size:=lg p p;have hR1:=kc (l:=kn p p) (by rw[hlen];exact ho1);rw[hlen]at hR1;clear he hlen ho1;go_wp2_with fail
  refine(api p t hp ht g1 0 cp1 w1 hR1).mono ?_;rintro e w2⟨v2,rfl,ho2,hb2⟩;obtain⟨ad2,cp2,rfl⟩:=ey ho2;have hlen:(kn p t).length=t.size:=lg p t;have hR2:=kc (l:=kn p t) (by rw[hlen];exact ho2);rw[hlen]at hR2;have hB2:=hb1.trans (hb2.mono hb1.size);have HGI:=aa (aat p t);clear hlen ho2 hb1 hb2 hR1;go_wp2_with fail
  go_loopw[5,16] (fun v i wr=>∃k:Nat,k<=t.size/\i=.int .i64 k/\wr.ownsRow w2.heap.size 3 1 v (ru p t k).length (ga (ru p t k))/\Below w2.heap.size w2 wr) (fun _ i _=>t.size-(intOf i).toNat)
  case atStart=>exact⟨0,by omega,rfl,bj _ _ _ _,ae⟩
  case round=>
   obtain⟨k,hk,rfl,hown,hb⟩:=hrel;have hR3:=hR2.below hb ac;have hz:=hb.size;have hlen:=aes p t k;by_cases hlt:k<t.size
   ·obtain⟨b,o,rfl,hbm,e0⟩:=hR3.at hlt
    rw[HGI.out k hlt]at e0;have hlti:(k:Int)<t.size:=by omega
    by_cases hq:lc p t k=p.size
    ·have hs:ru p t (k+1)=ru p t k++[(k:Int)]:=by simp only[ru];rw[if_pos hq]
     rw[hq]at e0;have HS:=aa hs;clear hs hR2 hR3 hq;go_wp2_with(first|(at_builtin;refine gj iv rfl _ _ rfl rfl hown [.int .i64 (k:Nat)] rfl rfl (by simp[Value.oneCell']) (by unfold maxLen;omega) (by omega) (by omega) ?_;intro v3 w3 hown3 hb3))
     exact⟨⟨k+1,by omega,by go_num,by rw[HS.out,gz,bd];exact hown3,hb.trans hb3⟩,by simp[intOf];omega⟩
    ·have hs:ru p t (k+1)=ru p t k:=by simp only[ru];rw[if_neg hq]
     have HS:=aa hs;obtain⟨x,hx⟩:∃x,x=lc p t k:=⟨_,rfl⟩;rw[<-hx]at e0 hq;have hqi:¬((x:Int)=p.size):=by omega
     clear hs hR2 hR3 hx;go_wp2;exact⟨⟨k+1,by omega,by go_num,by rw[HS.out];exact hown,hb⟩,by simp[intOf];omega⟩
   ·obtain rfl:k=t.size:=by omega
    go_wp2;go_ret;exact⟨_,rfl,fx hown hB2.size,hB2.trans (hb.mono hB2.size)⟩
end
end Go.Proofs.YtjfkmoinldlmaaaGreat
