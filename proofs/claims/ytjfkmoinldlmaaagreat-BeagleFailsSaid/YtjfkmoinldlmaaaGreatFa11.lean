/- The walk of BeagleFails, part 11. From a law's walk to its row: arguments that are leaves, rows of numbers, pairs of numbers. -/
import Derived.Test.YtjfkmoinldlmaaaGreatFa05
import Derived.Test.YtjfkmoinldlmaaaGreatFa09
import Derived.Deep.Slices
import Derived.Deep.RegionHeld
namespace Go.Proofs.YtjfkmoinldlmaaaGreat
open Go.Proofs.Tryz
section
set_option maxRecDepth 100000
open Go.ChangeShapes Go.WideShapes Go.ChangeAt Go.RowKit Go.Deep
theorem ajc:prog.cellsOf 3=1:=by kernel_rfl
section
variable{H:Type}{enc:TypeId×Value->H}{w:World}{base:Nat}{spare:Nat->Bool}{held:Bool}
theorem pu{b o i:Nat}{s:Option Nat}(hs:s=none):(⟨b,o,s⟩:Addr).add i=⟨b,o+i,none⟩:=by
 subst hs;unfold Addr.add;split<;>simp_all
end
end
end Go.Proofs.YtjfkmoinldlmaaaGreat
