/- The walk of BeagleFails, part 6. Short forms of the moves of a walk through a region that draws its order. -/
import Derived.Test.YtjfkmoinldlmaaaGreatFa02
import Derived.OrdersHeld
import Derived.Deep.RegionHeld
namespace Go.Proofs.YtjfkmoinldlmaaaGreat
open Go.Proofs.Tryz
section
open Go.RowKit
section
variable{P:Program}{ops:Array Oper}{Q:Exit->Act->World->Prop}{md:Region.Mode}{S:World->Prop}
theorem tk(i d:Nat)(v:Value){oi:Oper}{fuel:Nat}{listed:Array Bool}{a a':Act}{w:World}(hS:S w)(h:wpAnyH P md ops Q S fuel (listed.setIfInBounds i true) a' w)
 (hi:ops[i]?=some oi:=by rfl) (hd:oi.dst=some d:=by rfl) (hs:Region.noSelect ops=true:=by kernel_rfl) (hf:Region.free md ops listed i=true:=by kernel_rfl) (hr:(Region.ready md ops listed).contains i=true:=by kernel_rfl)
 (ha:a.put (some d) v=a':=by(simp only[Act.put,ag,ai,aj];exact rfl))
 (hQ:∀c a w,Q (.panic c) (a.put (some d) v) w->Q (.panic c) a w:=by exact fun _ _ _ h=>h)
 (hy:YieldsIf P ops S oi v a:=by exact Or.inl ⟨by rfl,by intro w' h;(try dsimp only at h);first|(go_simp;done)|(go_simp;decide)⟩):wpAnyH P md ops Q S (fuel+1) listed a w:=
 wpAnyH_take hi hs hf hr (by rw[hd];exact hQ) hy hS (by rw[hd,ha];exact h)
theorem mw(i:Nat){o:Oper}{fuel:Nat}{listed:Array Bool}{a:Act}{w:World}
 (h:∀K':Act->World->Prop,Shut (∀a w,S w->(S w->wpAnyH P md ops Q S fuel (listed.setIfInBounds i true) a w)->K' a w)->if Region.wanted o (yielded ops a.tmps)=true then Oper.wp P o a w K' Q else K' (a.put o.dst undef) w)
 (ho:ops[i]?=some o:=by rfl) (hr:Region.ready md ops listed=[i]:=by kernel_rfl):wpAnyH P md ops Q S (fuel+1) listed a w:=
 wpAnyH_ready hr (by simp) (.cons ho h .nil)
end
end
end Go.Proofs.YtjfkmoinldlmaaaGreat
