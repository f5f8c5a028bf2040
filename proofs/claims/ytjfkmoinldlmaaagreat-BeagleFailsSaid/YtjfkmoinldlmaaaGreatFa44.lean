/- The walk of BeagleFails, part 44. Walks of slices.Grow and slices.Concat at three rows of nodes. -/
import Derived.Test.YtjfkmoinldlmaaaGreatFa33
import Derived.Lib.AppendZeros
namespace Go.Proofs.YtjfkmoinldlmaaaGreat
open Go.Proofs.Tryz
section
set_option maxRecDepth 100000
set_option maxHeartbeats 4000000
open Go.RowKit Go.Shelf
theorem art(n:Nat)(h0:0<n)(hn:n<=3000)(w:World):
 Calls prog 230 #[.slice none 0 0,.int .i64 (n:Nat)] w fun e w'=>∃v,e=.returned v/\w'.ownsRow w.heap.size 81 4 v 0 []/\Below w.heap.size w w':=by
 obtain⟨i,z,ht,hi,hz,hsize,hby,hzs,hsz⟩:=j2;have hrun:=Lib.run_append_nil_zeros (P:=prog) w 29 3 29 81 i z .i64 .i64 ht underlying3 hi hz n h0 (by omega) (by omega) (by rw[hby];omega);have hcm:=grownCap_le_maxLen w n 0 81 (by unfold maxLen;omega);have hge:=grownCap_ge w n 0 81;generalize grownCap w n 0 81=C at *;have HO:=aa (show(w.drew.alloc (.cells (Builtin.zeroCells z.cells n++Builtin.zeroCells z.cells (C-n)) 81)).ownsRow w.heap.size 81 4 (.slice (some ⟨w.heap.size,0,none⟩) 0 C) 0 []from World.ownsRow_made w.drew _ C ac hcm (by rw[Array.size_append,size_zeroCells,size_zeroCells,hzs,<-Nat.add_mul];congr 1;omega));have HB:=aa ((aw w.heap.size w).drew.alloc ac (.cells (Builtin.zeroCells z.cells n++Builtin.zeroCells z.cells (C-n)) 81));have hni:(n:Int)<=3000:=by omega
 have hn0:(0:Int)<n:=by omega
 have hn0':¬((n:Int)<0):=by omega
 generalize hO:(Obj.cells (Builtin.zeroCells z.cells n++Builtin.zeroCells z.cells (C-n)) 81)=O at *;clear hO;clear ht hi hz hsize hby hzs hsz;go_enter func230,ntmps230;go_wp2_with(at_builtin;refine Lib.wpList_append_run _ rfl _ _ _ _ rfl _ _ rfl rfl _ _ hrun ?_)
 go_ret;exact⟨_,rfl,HO.out,HB.out⟩
theorem abl(B cb:Nat)(a1 a2 a3:Option Addr)(n1 n2 n3 c1 c2 c3:Nat)(xs1 xs2 xs3:List Value)(h1:0<n1)(hn:n1+n2+n3<=3000)(w:World)
 (hB:At w B (.cells #[.slice a1 n1 c1,.slice a2 n2 c2,.slice a3 n3 c3] 29))
 (t1:ft w 81 a1 n1 xs1) (t2:ft w 81 a2 n2 xs2) (t3:ft w 81 a3 n3 xs3) (l1:xs1.length=n1*4) (l2:xs2.length=n2*4) (l3:xs3.length=n3*4)
 (o1:∀u∈xs1,u.oneCell'=true) (o2:∀u∈xs2,u.oneCell'=true) (o3:∀u∈xs3,u.oneCell'=true):
 Calls prog 209 #[.slice (some ⟨B,0,none⟩) 3 cb] w fun e w'=>∃v,e=.returned v/\w'.ownsRow w.heap.size 81 4 v (n1+n2+n3) (xs1++xs2++xs3)/\Below w.heap.size w w':=by
 have q1:Hid (Calls prog 230 #[.slice none 0 0,.int .i64 ((n1:Int)+n2+n3)] w fun e w'=>∃v,e=.returned v/\w'.ownsRow w.heap.size 81 4 v 0 []/\Below w.heap.size w w'):=aa (by have:=art (n1+n2+n3) (by omega) hn w;rwa[Int.natCast_add,Int.natCast_add]at this);have e0:=hB.cell 0;have e1:=hB.cell 1;have e2:=hB.cell 2;have el:=hB.lt;have HBl:=aa fun w'(hb:Below w.heap.size w w')=>hB.below hb hB.lt
 have T1:=aa fun w'(hb:Below w.heap.size w w')=>(t1.keep (Kt.below hb)).news
 have T2:=aa fun w'(hb:Below w.heap.size w w')=>(t2.keep (Kt.below hb)).news
 have T3:=aa fun w'(hb:Below w.heap.size w w')=>(t3.keep (Kt.below hb)).news
 have O1:=aa o1;have O2:=aa o2;have O3:=aa o3;simp only[ak,am,au]at e0 e1 e2;have hs:(n1:Int)+n2+n3<=3000:=by omega
 have hs2:(n1:Int)+n2<=3000:=by omega
 have i1:(n1:Int)<=3000:=by omega
 have i2:(n2:Int)<=3000:=by omega
 have i3:(n3:Int)<=3000:=by omega
 have i4:¬((n1:Int)<0):=by omega
 have i5:¬((n1:Int)+n2<0):=by omega
 have i6:¬((n1:Int)+n2+n3<0):=by omega
 clear hB t1 t2 t3 o1 o2 o3;go_enter func209,ntmps209;go_wp2_with fail
 refine du 4 ?_;rw[cj];go_wp2_with fail
 rw[cj];go_wp2_with fail
 rw[cj];go_wp2_with fail
 rw[cj];go_wp2_with(go_at_call 230;(with_reducible refine q1.out.mono ?_);rintro e w0⟨v0,rfl,ho0,hb0⟩;have HO0:=aa ho0;have HB0:=aa hb0;clear ho0 e0 e1 e2 el;have e0:=(HBl.out _ hb0).cell 0;have e1:=(HBl.out _ hb0).cell 1;have e2:=(HBl.out _ hb0).cell 2;have el:=(HBl.out _ hb0).lt;simp only[ak,am,au]at e0 e1 e2;clear hb0;obtain⟨b0,d0,rfl⟩:=ey HO0.out)
 refine du 4 ?_;rw[cj];go_wp2_with(at_builtin;(with_reducible refine jb j2 rfl (.tmp 31) (.tmp 32) rfl rfl HO0.out rfl (T1.out _ HB0.out) l1 O1.out (by unfold maxLen;omega) (by omega) HB0.out.size ?_);intro v1 w1 hown hb hk hg hv;rw[dg,List.nil_append]at hown;have HO1:=aa hown;have HB1:=aa (HB0.out.trans hb);clear hown hb hk hg hv e0 e1 e2 el;have e0:=(HBl.out _ HB1.out).cell 0;have e1:=(HBl.out _ HB1.out).cell 1;have e2:=(HBl.out _ HB1.out).cell 2;have el:=(HBl.out _ HB1.out).lt;simp only[ak,am,au]at e0 e1 e2;obtain⟨b1,d1,rfl⟩:=ey HO1.out)
 rw[cj];go_wp2_with(at_builtin;(with_reducible refine jb j2 rfl (.tmp 31) (.tmp 32) rfl rfl HO1.out rfl (T2.out _ HB1.out) l2 O2.out (by unfold maxLen;omega) (by omega) HB1.out.size ?_);intro v2 w2 hown hb hk hg hv;have HO2:=aa hown;have HB2:=aa (HB1.out.trans hb);clear hown hb hk hg hv e0 e1 e2 el;have e0:=(HBl.out _ HB2.out).cell 0;have e1:=(HBl.out _ HB2.out).cell 1;have e2:=(HBl.out _ HB2.out).cell 2;have el:=(HBl.out _ HB2.out).lt;simp only[ak,am,au]at e0 e1 e2;obtain⟨b2,d2,rfl⟩:=ey HO2.out)
 rw[cj];go_wp2_with(at_builtin;(with_reducible refine jb j2 rfl (.tmp 31) (.tmp 32) rfl rfl HO2.out rfl (T3.out _ HB2.out) l3 O3.out (by unfold maxLen;omega) (by omega) HB2.out.size ?_);intro v3 w3 hown hb hk hg hv;have HO3:=aa hown;have HB3:=aa (HB2.out.trans hb);clear hown hb hk hg hv e0 e1 e2 el;have e0:=(HBl.out _ HB3.out).cell 0;have e1:=(HBl.out _ HB3.out).cell 1;have e2:=(HBl.out _ HB3.out).cell 2;have el:=(HBl.out _ HB3.out).lt;simp only[ak,am,au]at e0 e1 e2;obtain⟨b3,d3,rfl⟩:=ey HO3.out)
 rw[cj];go_wp2_with fail
 go_ret;exact⟨_,rfl,HO3.out,HB3.out⟩
end
end Go.Proofs.YtjfkmoinldlmaaaGreat
