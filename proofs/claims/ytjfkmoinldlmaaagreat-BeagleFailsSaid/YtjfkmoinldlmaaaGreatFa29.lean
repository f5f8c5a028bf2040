/- The walk of BeagleFails, part 29. Walk of the function that a stream's search makes. Walk of stream.New at a query of one leaf. Walks of a stream's steps and result, at a text that is read at once. Walks of the scanner at one text. -/
import Derived.Test.YtjfkmoinldlmaaaGreatFa28
import Derived.Deep.RegionHeldLaw
namespace Go.Proofs.YtjfkmoinldlmaaaGreat
open Go.Proofs.Tryz
section
set_option maxRecDepth 100000
set_option maxHeartbeats 4000000
open Go.RowKit Go.Shelf
theorem Ex.far{S:List Nat}{a b c:World}{N:Nat}(h:Ex S a b)(k:Below N b c)(hN:a.heap.size<=N):Ex S a c:=
 ⟨k.os.trans h.os,k.tape.trans h.tape,k.output.trans h.output,ba h.size k.size,fun i hi hn=>(k.block i (by omega)).trans (h.block i hi hn)⟩
structure ClS(w:World)(N S own sb nx kb FD cfd g:Nat)(ad:Option Addr)(cap:Nat)(v:Value):Prop where
 own_:w.cell? ⟨own,0,none⟩=some (.slice ad 2 cap)
 sb_:w.cell? ⟨sb,0,none⟩=some (.pointer (some ⟨S,0,none⟩))
 s10:w.cell? ⟨S,10,none⟩=some (.slice (some ⟨FD,0,none⟩) 1 cfd)
 nx_:w.cell? ⟨nx,0,none⟩=some (.int .i64 0)
 kb_:w.cell? ⟨kb,0,none⟩=some (.int .i64 0)
 fd_:w.cell? ⟨FD,0,none⟩=some v
 ff:w.frozen? ⟨FD,0,none⟩=false
 nf:w.frozen? ⟨nx,0,none⟩=false
 f0:w.cell? ⟨g,0,none⟩=some (.int .i64 0)
 f1:w.cell? ⟨g,1,none⟩=some (.int .i64 2)
 lo:own<N/\sb<N/\S<N/\nx<N/\kb<N/\FD<N/\g<N
 ne:own≠FD/\sb≠FD/\S≠FD/\nx≠FD/\kb≠FD/\g≠FD
 hN:N<=w.heap.size
theorem ClS.below{w w':World}{N S own sb nx kb FD cfd g cap:Nat}{ad:Option Addr}{v:Value}(h:ClS w N S own sb nx kb FD cfd g ad cap v)(hb:Below N w w'):ClS w' N S own sb nx kb FD cfd g ad cap v:=by
 obtain⟨a1,a2,a3,a4,a5,a6,a7,a8,a9,a10,⟨b1,b2,b3,b4,b5,b6,b7⟩,c,d⟩:=h;exact⟨(hb.cell (p:=⟨own,0,none⟩) b1).trans a1,(hb.cell (p:=⟨sb,0,none⟩) b2).trans a2,(hb.cell (p:=⟨S,10,none⟩) b3).trans a3,(hb.cell (p:=⟨nx,0,none⟩) b4).trans a4,(hb.cell (p:=⟨kb,0,none⟩) b5).trans a5,(hb.cell (p:=⟨FD,0,none⟩) b6).trans a6,(hb.frozen (p:=⟨FD,0,none⟩) b6).trans a7,(hb.frozen (p:=⟨nx,0,none⟩) b4).trans a8,(hb.cell (p:=⟨g,0,none⟩) b7).trans a9,(hb.cell (p:=⟨g,1,none⟩) b7).trans a10,⟨b1,b2,b3,b4,b5,b6,b7⟩,c,ba d hb.size⟩
theorem ClS.set{w:World}{N S own sb nx kb FD cfd g cap:Nat}{ad:Option Addr}{v:Value}(h:ClS w N S own sb nx kb FD cfd g ad cap v)(v':Value):ClS (w.setCell ⟨FD,0,none⟩ v') N S own sb nx kb FD cfd g ad cap v':=by
 obtain⟨a1,a2,a3,a4,a5,a6,a7,a8,a9,a10,⟨b1,b2,b3,b4,b5,b6,b7⟩,⟨c1,c2,c3,c4,c5,c6⟩,d⟩:=h;have o:∀B j,B≠FD->(w.setCell ⟨FD,0,none⟩ v').cell? ⟨B,j,none⟩=w.cell? ⟨B,j,none⟩:=fun B j hB=>bh _ _ _ _ (by intro e;injection e with h1 h2;omega)
 exact⟨(o _ _ c1).trans a1,(o _ _ c2).trans a2,(o _ _ c3).trans a3,(o _ _ c4).trans a4,(o _ _ c5).trans a5,by simp[go_sem,a6],by rw[de];exact a7,by rw[de];exact a8,(o _ _ c6).trans a9,(o _ _ c6).trans a10,⟨b1,b2,b3,b4,b5,b6,b7⟩,⟨c1,c2,c3,c4,c5,c6⟩,by simpa using d⟩
end
section
set_option maxRecDepth 100000
set_option maxHeartbeats 4000000
open Go.RowKit Go.Shelf
theorem elem135:mi 135 140 1 8:=lj (z:=.nilFunc) underlying135 (by kernel_rfl) rfl (by decide)
abbrev s7(own sb nx kb:Nat):Value:=.func (.func 162) #[] #[.pointer (some ⟨own,0,none⟩),.pointer (some ⟨sb,0,none⟩),.pointer (some ⟨nx,0,none⟩),.pointer (some ⟨kb,0,none⟩)]
end
section
set_option maxRecDepth 100000
set_option maxHeartbeats 4000000
open Go.RowKit Go.Shelf
theorem wn{P:Program}{a:Act}{w:World}{Q:Exit->Act->World->Prop}{c rest:Code}(l:Nat)(hf:findLabel c l=some rest)
 (first:c.wp P (Exit.jump l (fun a w=>rest.wp P (Exit.jump l (fun _ _=>False) Q) a w) Q) a w):(Code.scope c).wp P Q a w:=
 wp_scope_jumps l _ (fun _ _=>0) hf first fun a w h=>Code.wp_mono (fun e a w q=>by
  cases e with
  |goto l'=>exact(q.2:False).elim
  |_=>exact q) h
end
section
set_option maxRecDepth 100000
set_option maxHeartbeats 4000000
open Go.RowKit Go.Shelf
abbrev qs:ByteArray:=⟨#[34,97,98,34]⟩
abbrev qt(k:Int):Obj:=.cells #[.string qs,.int .i64 k,.int .i64 0] 215
theorem abi(C:Nat)(k:Int)(w:World)(hC:At w C (qt k)):
 Calls prog 154 #[.pointer (some ⟨C,0,none⟩)] w fun e w'=>e=.returned (.bool (decide (4<=k)))/\Below w.heap.size w w':=by
 have c0:=hC.cell 0;have c1:=hC.cell 1;have cl:=hC.lt;simp only[ak,am,au]at c0 c1;clear hC;go_enter func154,ntmps154;go_wp2_with fail
 go_quiet(fail)
 go_wp2_with fail
 go_ret;exact⟨rfl,cu ae _⟩
theorem aiv(C:Nat)(k:Nat)(hk:k<4)(b:Nat)(hb:∀h:k<qs.size,((qs[k].toNat:Int) !=(b:Int))=true)(w:World)(hC:At w C (qt k)):
 Calls prog 155 #[.pointer (some ⟨C,0,none⟩),.int .u8 (b:Nat)] w fun e w'=>e=.returned (.bool false)/\Below w.heap.size w w':=by
 have h1:=aa fun w' h=>abi C k w' h
 have HC:=aa hC;have c0:=hC.cell 0;have c1:=hC.cell 1;have cl:=hC.lt;simp only[ak,am,au]at c0 c1;have hki:decide ((4:Int)<=k)=false:=by simp;omega
 rw[hki]at h1;have hbb:=hb hk;clear hC hki hb;go_enter func155,ntmps155;go_wp2_with fail
 go_region_held3 (fun w'=>fo w w') (first|with_reducible assumption|with_reducible exact fo.start _) (first|(go_at_call 154;refine(h1.out w.drew HC.out).mono ?_;rintro e w1⟨rfl,hb1⟩;have O1:=fo.calld (fo.refl w) hb1))
 all_goals(go_wp2_with fail)
 all_goals go_ret
 all_goals(exact⟨rfl,O1.2.2.2⟩)
theorem has_yes(C:Nat)(k:Nat)(hk:k<4)(b:Nat)(hb:∀h:k<qs.size,((qs[k].toNat:Int) !=(b:Int))=false)(w:World)(hC:At w C (qt k)):
 Calls prog 155 #[.pointer (some ⟨C,0,none⟩),.int .u8 (b:Nat)] w fun e w'=>e=.returned (.bool true)/\Ex [C] w w'/\At w' C (qt ((k:Int)+1)):=by
 have h1:=aa fun w' h=>abi C k w' h
 have HC:=aa hC;have c0:=hC.cell 0;have c1:=hC.cell 1;have fz:=hC.free 1;have cl:=hC.lt;simp only[ak,am,au]at c0 c1;have hki:decide ((4:Int)<=k)=false:=by simp;omega
 rw[hki]at h1;have hbb:=hb hk;clear hC hki hb;go_enter func155,ntmps155;go_wp2_with fail
 go_region_held3 (fun w'=>fo w w') (first|with_reducible assumption|with_reducible exact fo.start _) (first|(go_at_call 154;refine(h1.out w.drew HC.out).mono ?_;rintro e w1⟨rfl,hb1⟩;have O1:=fo.calld (fo.refl w) hb1;have hC1:=At.below (w:=w.drew) HC.out hb1 cl;have d0:=hC1.cell 0;have d1:=hC1.cell 1;have dz:=hC1.free 1;have dl:=hC1.lt;have HC1:=aa hC1;clear hC1;simp only[ak,am,au]at d0 d1))
 all_goals(go_wp2_with fail)
 all_goals go_ret
 all_goals(exact⟨rfl,(Ex.of (S:=[C]) O1.2.2.2).set C 1 _ (by simp),HC1.out.set 1 _⟩)
end
end Go.Proofs.YtjfkmoinldlmaaaGreat
