/-
  No cell of these rows narrows 'for every input' (looked for: loops, veiled, ifaces, maps, wideKeys, modest, calm, conditions, laid).
  DERIVED. THE GIVEN ROWS OF THIS SEAT. 2 by the template 'for every input the law returns true; each argument reads behind the call as it read before'; 0 by the template 'total and deterministic' (their statements: YtjfkmoinldlmaaaGreatTotals.lean).
  GIVEN WITH THE SEED: the statements are not yours to turn. If you find one false, say at which input.
  Laid BY PROGRAM, IN A SANDBOX (cutbox-rows.mjs): the forced cells as the released guide's own fill.sh prints them over the translation 1926987c395cd75d… (all of the seat's roots in one cut). By AI agents, Wed Nov 11 2026. No macro, syntax, notation, axiom, sorry.
-/
import Derived.Test.YtjfkmoinldlmaaaGreatChecked
import GoSem.Claim
import GoSem.ClaimJoined
import GoSem.ClaimMapViews
import Derived.JoinedTies
import Derived.KernelRfl
namespace Go.Proofs.YtjfkmoinldlmaaaGreat
/- THE CELL 'sum', in the pinned program and in every row, IS THE sha256 OF THE DUMP (.gsa) THAT YtjfkmoinldlmaaaGreatProg.lean LOADS. Nothing in Lean hashes anything: it is a label: what it is worth is what the hold of that sum in a sandbox is worth. -/
noncomputable def Tryz.pinned : Pinned := { name := "ytjfkmoinldlmaaagreat", sum := "1926987c395cd75d9ecf20a903af2afce017c0926073945a77a6dd307a5b1308", checked := Tryz.checked }
namespace Rows
def none {H : Type} : Left H := { results := [], args := [] }

/-- 'beagletop.BeagleFails': WHATEVER THE INPUT: true; the input reads as it did. -/
def beagleFailsSpec : ChangeSpec := { name := "beagleFails", fn := fun _ => fun
  | [d1, d2, d3] => { results := [.lit (.bool true)], args := [d1, d2, d3] }
  | _ => none }
def beagleFailsRow : OpenClaim := { program := "ytjfkmoinldlmaaagreat", sum := "1926987c395cd75d9ecf20a903af2afce017c0926073945a77a6dd307a5b1308", func := "beagle/beagletop.BeagleFails", spec := "beagleFails", inPlace := ["internal/bytealg.IndexByteString"], unfollowed := true, recurses := true, plainKeys := false, apart := false }
def BeagleFailsSaid : Prop := beagleFailsRow.holds Tryz.pinned (OpenSpec.ofChange beagleFailsSpec)

/-- ITS FALSE NEIGHBOUR: 'it returns false'. Refute it at one input. -/
def beagleFailsWrong : ChangeSpec := { name := "beagleFails", fn := fun _ => fun
  | [d1, d2, d3] => { results := [.lit (.bool false)], args := [d1, d2, d3] }
  | _ => none }
def BeagleFailsWrongFalsely : Prop := beagleFailsRow.holds Tryz.pinned (OpenSpec.ofChange beagleFailsWrong)

/-- 'beagletop.BeagleSums': WHATEVER THE INPUT: true; the input reads as it did. -/
def beagleSumsSpec : ChangeSpec := { name := "beagleSums", fn := fun _ => fun
  | [d1, d2, d3] => { results := [.lit (.bool true)], args := [d1, d2, d3] }
  | _ => none }
def beagleSumsRow : OpenClaim := { program := "ytjfkmoinldlmaaagreat", sum := "1926987c395cd75d9ecf20a903af2afce017c0926073945a77a6dd307a5b1308", func := "beagle/beagletop.BeagleSums", spec := "beagleSums", inPlace := ["internal/bytealg.IndexByteString"], unfollowed := true, recurses := true, plainKeys := false, apart := false }
def BeagleSumsSaid : Prop := beagleSumsRow.holds Tryz.pinned (OpenSpec.ofChange beagleSumsSpec)

/-- ITS FALSE NEIGHBOUR: 'it returns false'. Refute it at one input. -/
def beagleSumsWrong : ChangeSpec := { name := "beagleSums", fn := fun _ => fun
  | [d1, d2, d3] => { results := [.lit (.bool false)], args := [d1, d2, d3] }
  | _ => none }
def BeagleSumsWrongFalsely : Prop := beagleSumsRow.holds Tryz.pinned (OpenSpec.ofChange beagleSumsWrong)

/- THE SECOND FORM. 'bulk': how many values and letters a reading holds, each counted each time it is reached (what is shared counts as often as it is met; a slice's spare places count too). A statement '..UptoSaid' is the law's where the arguments, and the package variables that the reading takes, are together of bulk at most 1048576: NARROWER than '..Said'. Prove '..Said' where nothing that the law and all that it calls make is longer than what came in: it says more and counts as full. Else prove '..UptoSaid'. A law counts once. -/
mutual
def uptoBulk {H : Type} : DataW H → Nat
  | .lit (.string bytes) => bytes.length + 1
  | .lit _ => 1
  | .nil => 1
  | .ptr d => uptoBulk d + 1
  | .slice elems spare => uptoBulkAll elems + uptoBulkAll spare + 1
  | .agg parts => uptoBulkAll parts + 1
  | .iface _ d => uptoBulk d + 1
  | .map entries => uptoBulkEntries entries + 1
  | .held _ => 1
def uptoBulkAll {H : Type} : List (DataW H) → Nat
  | [] => 0
  | d :: r => uptoBulk d + uptoBulkAll r
def uptoBulkEntries {H : Type} : List (Lit × DataW H) → Nat
  | [] => 0
  | x :: r => uptoBulkEntry x + uptoBulkEntries r
def uptoBulkEntry {H : Type} : Lit × DataW H → Nat
  | (.string bytes, d) => bytes.length + uptoBulk d + 1
  | (_, d) => uptoBulk d + 1
 end
def uptoSmall : (H : Type) → List (DataW H) → Bool := fun _ ds => decide (uptoBulkAll ds ≤ 1048576)
def OpenSpec.upto (s : _root_.Go.ChangeSpec) : _root_.Go.OpenSpec := { _root_.Go.OpenSpec.ofChange s with cond := some uptoSmall }

/-- 'beagletop.BeagleFails', WHERE WHAT IT READS IS OF BULK AT MOST 1048576: true; the input reads as it did. -/
def beagleFailsUptoRow : OpenClaim := { program := "ytjfkmoinldlmaaagreat", sum := "1926987c395cd75d9ecf20a903af2afce017c0926073945a77a6dd307a5b1308", func := "beagle/beagletop.BeagleFails", spec := "beagleFails", inPlace := ["internal/bytealg.IndexByteString"], unfollowed := true, recurses := true, plainKeys := false, apart := false, narrowed := true }
def BeagleFailsUptoSaid : Prop := beagleFailsUptoRow.holds Tryz.pinned (OpenSpec.upto beagleFailsSpec)

/-- 'beagletop.BeagleSums', WHERE WHAT IT READS IS OF BULK AT MOST 1048576: true; the input reads as it did. -/
def beagleSumsUptoRow : OpenClaim := { program := "ytjfkmoinldlmaaagreat", sum := "1926987c395cd75d9ecf20a903af2afce017c0926073945a77a6dd307a5b1308", func := "beagle/beagletop.BeagleSums", spec := "beagleSums", inPlace := ["internal/bytealg.IndexByteString"], unfollowed := true, recurses := true, plainKeys := false, apart := false, narrowed := true }
def BeagleSumsUptoSaid : Prop := beagleSumsUptoRow.holds Tryz.pinned (OpenSpec.upto beagleSumsSpec)

end Rows
end Go.Proofs.YtjfkmoinldlmaaaGreat
