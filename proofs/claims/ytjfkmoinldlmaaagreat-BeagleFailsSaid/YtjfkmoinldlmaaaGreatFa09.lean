/- The walk of BeagleFails, part 9. From a law's walk to its row: what an argument of each type of this program looks like as a value. -/
import Derived.Test.YtjfkmoinldlmaaaGreatFa02
import Derived.ProofKit
import Derived.OpenShut
import Derived.ShutString
import Derived.ChangeOld
import Derived.SizedLaws
import Derived.ChangeSame
import Derived.JoinedOf
import Derived.JoinedAt
import Derived.Laws.IdiomArrays
namespace Go.Proofs.YtjfkmoinldlmaaaGreat
open Go.Proofs.Tryz
section
set_option maxRecDepth 100000
open Go.ChangeShapes Go.WideShapes Go.ChangeAt Go.RowKit
theorem try_own:ownKnob prog.godebug=none:=by kernel_rfl
theorem aak:laidOutB prog=true:=by kernel_rfl
theorem aks:prog.cellsOf 46=1:=by kernel_rfl
theorem aep:prog.cellsOf 100=4:=by kernel_rfl
section
variable{H:Type}{enc:TypeId×Value->H}{w:World}{base:Nat}{spare:Nat->Bool}{held:Bool}
end
end
end Go.Proofs.YtjfkmoinldlmaaaGreat
