/-
  No cell of these rows narrows 'for every input' (looked for: loops, veiled, ifaces, maps, wideKeys, modest, calm, conditions, laid).
  DERIVED. THE GIVEN ROWS OF THIS SEAT. 30 by the template 'for every input the law returns true; each argument reads behind the call as it read before'; 0 by the template 'total and deterministic' (their statements: YtkhcjjdamphbfaaTotals.lean).
  GIVEN WITH THE SEED: the statements are not yours to turn. If you find one false, say at which input.
  Laid BY PROGRAM, IN A SANDBOX (cutbox-rows.mjs): the forced cells as the released guide's own fill.sh prints them over the translation 6bd1ebbfe6271261… (all of the seat's roots in one cut). By AI agents, Wed Nov 11 2026. No macro, syntax, notation, axiom, sorry.
-/
import Derived.Test.YtkhcjjdamphbfaaChecked
import GoSem.Claim
import GoSem.ClaimJoined
import GoSem.ClaimMapViews
import Derived.JoinedTies
import Derived.KernelRfl
namespace Go.Proofs.Ytkhcjjdamphbfaa
/- THE CELL 'sum', in the pinned program and in every row, IS THE sha256 OF THE DUMP (.gsa) THAT YtkhcjjdamphbfaaProg.lean LOADS. Nothing in Lean hashes anything: it is a label: what it is worth is what the hold of that sum in a sandbox is worth. -/
noncomputable def Try.pinned : Pinned := { name := "ytkhcjjdamphbfaa", sum := "6bd1ebbfe62712612621c3e7008c377e47954b87ad472e61ad009df290e856e7", checked := Try.checked }
namespace Rows
def none {H : Type} : Left H := { results := [], args := [] }

/-- 'beaglelaw06.ClassOf': WHATEVER THE INPUT: true; the input reads as it did. -/
def classOfSpec : ChangeSpec := { name := "classOf", fn := fun _ => fun
  | [d1, d2] => { results := [.lit (.bool true)], args := [d1, d2] }
  | _ => none }
def classOfRow : OpenClaim := { program := "ytkhcjjdamphbfaa", sum := "6bd1ebbfe62712612621c3e7008c377e47954b87ad472e61ad009df290e856e7", func := "beagle/beaglelaw06.ClassOf", spec := "classOf", plainKeys := false, apart := false }
def ClassOfSaid : Prop := classOfRow.holds Try.pinned (OpenSpec.ofChange classOfSpec)

/-- ITS FALSE NEIGHBOUR: 'it returns false'. Refute it at one input. -/
def classOfWrong : ChangeSpec := { name := "classOf", fn := fun _ => fun
  | [d1, d2] => { results := [.lit (.bool false)], args := [d1, d2] }
  | _ => none }
def ClassOfWrongFalsely : Prop := classOfRow.holds Try.pinned (OpenSpec.ofChange classOfWrong)

/-- 'beaglelaw06.ClassSets': WHATEVER THE INPUT: true; the input reads as it did. -/
def classSetsSpec : ChangeSpec := { name := "classSets", fn := fun _ => fun
  | [d1, d2] => { results := [.lit (.bool true)], args := [d1, d2] }
  | _ => none }
def classSetsRow : OpenClaim := { program := "ytkhcjjdamphbfaa", sum := "6bd1ebbfe62712612621c3e7008c377e47954b87ad472e61ad009df290e856e7", func := "beagle/beaglelaw06.ClassSets", spec := "classSets", plainKeys := false, apart := false }
def ClassSetsSaid : Prop := classSetsRow.holds Try.pinned (OpenSpec.ofChange classSetsSpec)

/-- ITS FALSE NEIGHBOUR: 'it returns false'. Refute it at one input. -/
def classSetsWrong : ChangeSpec := { name := "classSets", fn := fun _ => fun
  | [d1, d2] => { results := [.lit (.bool false)], args := [d1, d2] }
  | _ => none }
def ClassSetsWrongFalsely : Prop := classSetsRow.holds Try.pinned (OpenSpec.ofChange classSetsWrong)

/-- 'beaglelaw06.ClassAsks': WHATEVER THE INPUT: true; the input reads as it did. -/
def classAsksSpec : ChangeSpec := { name := "classAsks", fn := fun _ => fun
  | [d1, d2] => { results := [.lit (.bool true)], args := [d1, d2] }
  | _ => none }
def classAsksRow : OpenClaim := { program := "ytkhcjjdamphbfaa", sum := "6bd1ebbfe62712612621c3e7008c377e47954b87ad472e61ad009df290e856e7", func := "beagle/beaglelaw06.ClassAsks", spec := "classAsks", plainKeys := false, apart := false }
def ClassAsksSaid : Prop := classAsksRow.holds Try.pinned (OpenSpec.ofChange classAsksSpec)

/-- ITS FALSE NEIGHBOUR: 'it returns false'. Refute it at one input. -/
def classAsksWrong : ChangeSpec := { name := "classAsks", fn := fun _ => fun
  | [d1, d2] => { results := [.lit (.bool false)], args := [d1, d2] }
  | _ => none }
def ClassAsksWrongFalsely : Prop := classAsksRow.holds Try.pinned (OpenSpec.ofChange classAsksWrong)

/-- 'beaglelaw06.ClassRuns': WHATEVER THE INPUT: true; the input reads as it did. -/
def classRunsSpec : ChangeSpec := { name := "classRuns", fn := fun _ => fun
  | [d] => { results := [.lit (.bool true)], args := [d] }
  | _ => none }
def classRunsRow : OpenClaim := { program := "ytkhcjjdamphbfaa", sum := "6bd1ebbfe62712612621c3e7008c377e47954b87ad472e61ad009df290e856e7", func := "beagle/beaglelaw06.ClassRuns", spec := "classRuns", plainKeys := false, apart := false }
def ClassRunsSaid : Prop := classRunsRow.holds Try.pinned (OpenSpec.ofChange classRunsSpec)

/-- ITS FALSE NEIGHBOUR: 'it returns false'. Refute it at one input. -/
def classRunsWrong : ChangeSpec := { name := "classRuns", fn := fun _ => fun
  | [d] => { results := [.lit (.bool false)], args := [d] }
  | _ => none }
def ClassRunsWrongFalsely : Prop := classRunsRow.holds Try.pinned (OpenSpec.ofChange classRunsWrong)

/-- 'beaglelaw06.ClassSame': WHATEVER THE INPUT: true; the input reads as it did. -/
def classSameSpec : ChangeSpec := { name := "classSame", fn := fun _ => fun
  | [d1, d2] => { results := [.lit (.bool true)], args := [d1, d2] }
  | _ => none }
def classSameRow : OpenClaim := { program := "ytkhcjjdamphbfaa", sum := "6bd1ebbfe62712612621c3e7008c377e47954b87ad472e61ad009df290e856e7", func := "beagle/beaglelaw06.ClassSame", spec := "classSame", plainKeys := false, apart := false }
def ClassSameSaid : Prop := classSameRow.holds Try.pinned (OpenSpec.ofChange classSameSpec)

/-- ITS FALSE NEIGHBOUR: 'it returns false'. Refute it at one input. -/
def classSameWrong : ChangeSpec := { name := "classSame", fn := fun _ => fun
  | [d1, d2] => { results := [.lit (.bool false)], args := [d1, d2] }
  | _ => none }
def ClassSameWrongFalsely : Prop := classSameRow.holds Try.pinned (OpenSpec.ofChange classSameWrong)

/-- 'beaglelaw06.ClassLaws': WHATEVER THE INPUT: true; the input reads as it did. -/
def classLawsSpec : ChangeSpec := { name := "classLaws", fn := fun _ => fun
  | [d1, d2] => { results := [.lit (.bool true)], args := [d1, d2] }
  | _ => none }
def classLawsRow : OpenClaim := { program := "ytkhcjjdamphbfaa", sum := "6bd1ebbfe62712612621c3e7008c377e47954b87ad472e61ad009df290e856e7", func := "beagle/beaglelaw06.ClassLaws", spec := "classLaws", plainKeys := false, apart := false }
def ClassLawsSaid : Prop := classLawsRow.holds Try.pinned (OpenSpec.ofChange classLawsSpec)

/-- ITS FALSE NEIGHBOUR: 'it returns false'. Refute it at one input. -/
def classLawsWrong : ChangeSpec := { name := "classLaws", fn := fun _ => fun
  | [d1, d2] => { results := [.lit (.bool false)], args := [d1, d2] }
  | _ => none }
def ClassLawsWrongFalsely : Prop := classLawsRow.holds Try.pinned (OpenSpec.ofChange classLawsWrong)

/-- 'beaglelaw08.NaiveCounts': WHATEVER THE INPUT: true; the input reads as it did. -/
def naiveCountsSpec : ChangeSpec := { name := "naiveCounts", fn := fun _ => fun
  | [d1, d2, d3] => { results := [.lit (.bool true)], args := [d1, d2, d3] }
  | _ => none }
def naiveCountsRow : OpenClaim := { program := "ytkhcjjdamphbfaa", sum := "6bd1ebbfe62712612621c3e7008c377e47954b87ad472e61ad009df290e856e7", func := "beagle/beaglelaw08.NaiveCounts", spec := "naiveCounts", unfollowed := true, recurses := true, plainKeys := false, apart := false }
def NaiveCountsSaid : Prop := naiveCountsRow.holds Try.pinned (OpenSpec.ofChange naiveCountsSpec)

/-- ITS FALSE NEIGHBOUR: 'it returns false'. Refute it at one input. -/
def naiveCountsWrong : ChangeSpec := { name := "naiveCounts", fn := fun _ => fun
  | [d1, d2, d3] => { results := [.lit (.bool false)], args := [d1, d2, d3] }
  | _ => none }
def NaiveCountsWrongFalsely : Prop := naiveCountsRow.holds Try.pinned (OpenSpec.ofChange naiveCountsWrong)

/-- 'beaglelaw08.NaiveFinds': WHATEVER THE INPUT: true; the input reads as it did. -/
def naiveFindsSpec : ChangeSpec := { name := "naiveFinds", fn := fun _ => fun
  | [d1, d2, d3] => { results := [.lit (.bool true)], args := [d1, d2, d3] }
  | _ => none }
def naiveFindsRow : OpenClaim := { program := "ytkhcjjdamphbfaa", sum := "6bd1ebbfe62712612621c3e7008c377e47954b87ad472e61ad009df290e856e7", func := "beagle/beaglelaw08.NaiveFinds", spec := "naiveFinds", unfollowed := true, recurses := true, plainKeys := false, apart := false }
def NaiveFindsSaid : Prop := naiveFindsRow.holds Try.pinned (OpenSpec.ofChange naiveFindsSpec)

/-- ITS FALSE NEIGHBOUR: 'it returns false'. Refute it at one input. -/
def naiveFindsWrong : ChangeSpec := { name := "naiveFinds", fn := fun _ => fun
  | [d1, d2, d3] => { results := [.lit (.bool false)], args := [d1, d2, d3] }
  | _ => none }
def NaiveFindsWrongFalsely : Prop := naiveFindsRow.holds Try.pinned (OpenSpec.ofChange naiveFindsWrong)

/-- 'beaglelaw08.NaiveHits': WHATEVER THE INPUT: true; the input reads as it did. -/
def naiveHitsSpec : ChangeSpec := { name := "naiveHits", fn := fun _ => fun
  | [d1, d2] => { results := [.lit (.bool true)], args := [d1, d2] }
  | _ => none }
def naiveHitsRow : OpenClaim := { program := "ytkhcjjdamphbfaa", sum := "6bd1ebbfe62712612621c3e7008c377e47954b87ad472e61ad009df290e856e7", func := "beagle/beaglelaw08.NaiveHits", spec := "naiveHits", unfollowed := true, recurses := true, plainKeys := false, apart := false }
def NaiveHitsSaid : Prop := naiveHitsRow.holds Try.pinned (OpenSpec.ofChange naiveHitsSpec)

/-- ITS FALSE NEIGHBOUR: 'it returns false'. Refute it at one input. -/
def naiveHitsWrong : ChangeSpec := { name := "naiveHits", fn := fun _ => fun
  | [d1, d2] => { results := [.lit (.bool false)], args := [d1, d2] }
  | _ => none }
def NaiveHitsWrongFalsely : Prop := naiveHitsRow.holds Try.pinned (OpenSpec.ofChange naiveHitsWrong)

/-- 'beaglelaw08.NaiveParts': WHATEVER THE INPUT: true; the input reads as it did. -/
def naivePartsSpec : ChangeSpec := { name := "naiveParts", fn := fun _ => fun
  | [d1, d2, d3] => { results := [.lit (.bool true)], args := [d1, d2, d3] }
  | _ => none }
def naivePartsRow : OpenClaim := { program := "ytkhcjjdamphbfaa", sum := "6bd1ebbfe62712612621c3e7008c377e47954b87ad472e61ad009df290e856e7", func := "beagle/beaglelaw08.NaiveParts", spec := "naiveParts", unfollowed := true, recurses := true, plainKeys := false, apart := false }
def NaivePartsSaid : Prop := naivePartsRow.holds Try.pinned (OpenSpec.ofChange naivePartsSpec)

/-- ITS FALSE NEIGHBOUR: 'it returns false'. Refute it at one input. -/
def naivePartsWrong : ChangeSpec := { name := "naiveParts", fn := fun _ => fun
  | [d1, d2, d3] => { results := [.lit (.bool false)], args := [d1, d2, d3] }
  | _ => none }
def NaivePartsWrongFalsely : Prop := naivePartsRow.holds Try.pinned (OpenSpec.ofChange naivePartsWrong)

/-- 'beaglelaw08.NaiveMore': WHATEVER THE INPUT: true; the input reads as it did. -/
def naiveMoreSpec : ChangeSpec := { name := "naiveMore", fn := fun _ => fun
  | [d1, d2, d3] => { results := [.lit (.bool true)], args := [d1, d2, d3] }
  | _ => none }
def naiveMoreRow : OpenClaim := { program := "ytkhcjjdamphbfaa", sum := "6bd1ebbfe62712612621c3e7008c377e47954b87ad472e61ad009df290e856e7", func := "beagle/beaglelaw08.NaiveMore", spec := "naiveMore", unfollowed := true, recurses := true, plainKeys := false, apart := false }
def NaiveMoreSaid : Prop := naiveMoreRow.holds Try.pinned (OpenSpec.ofChange naiveMoreSpec)

/-- ITS FALSE NEIGHBOUR: 'it returns false'. Refute it at one input. -/
def naiveMoreWrong : ChangeSpec := { name := "naiveMore", fn := fun _ => fun
  | [d1, d2, d3] => { results := [.lit (.bool false)], args := [d1, d2, d3] }
  | _ => none }
def NaiveMoreWrongFalsely : Prop := naiveMoreRow.holds Try.pinned (OpenSpec.ofChange naiveMoreWrong)

/-- 'beaglelaw07.LeafRight': WHATEVER THE INPUT: true; the input reads as it did. -/
def leafRightSpec : ChangeSpec := { name := "leafRight", fn := fun _ => fun
  | [d] => { results := [.lit (.bool true)], args := [d] }
  | _ => none }
def leafRightRow : OpenClaim := { program := "ytkhcjjdamphbfaa", sum := "6bd1ebbfe62712612621c3e7008c377e47954b87ad472e61ad009df290e856e7", func := "beagle/beaglelaw07.LeafRight", spec := "leafRight", plainKeys := false, apart := false }
def LeafRightSaid : Prop := leafRightRow.holds Try.pinned (OpenSpec.ofChange leafRightSpec)

/-- ITS FALSE NEIGHBOUR: 'it returns false'. Refute it at one input. -/
def leafRightWrong : ChangeSpec := { name := "leafRight", fn := fun _ => fun
  | [d] => { results := [.lit (.bool false)], args := [d] }
  | _ => none }
def LeafRightWrongFalsely : Prop := leafRightRow.holds Try.pinned (OpenSpec.ofChange leafRightWrong)

/-- 'beaglelaw07.LeafTexts': WHATEVER THE INPUT: true; the input reads as it did. -/
def leafTextsSpec : ChangeSpec := { name := "leafTexts", fn := fun _ => fun
  | [d1, d2] => { results := [.lit (.bool true)], args := [d1, d2] }
  | _ => none }
def leafTextsRow : OpenClaim := { program := "ytkhcjjdamphbfaa", sum := "6bd1ebbfe62712612621c3e7008c377e47954b87ad472e61ad009df290e856e7", func := "beagle/beaglelaw07.LeafTexts", spec := "leafTexts", plainKeys := false, apart := false }
def LeafTextsSaid : Prop := leafTextsRow.holds Try.pinned (OpenSpec.ofChange leafTextsSpec)

/-- ITS FALSE NEIGHBOUR: 'it returns false'. Refute it at one input. -/
def leafTextsWrong : ChangeSpec := { name := "leafTexts", fn := fun _ => fun
  | [d1, d2] => { results := [.lit (.bool false)], args := [d1, d2] }
  | _ => none }
def LeafTextsWrongFalsely : Prop := leafTextsRow.holds Try.pinned (OpenSpec.ofChange leafTextsWrong)

/-- 'beaglelaw07.LeafLetters': WHATEVER THE INPUT: true; the input reads as it did. -/
def leafLettersSpec : ChangeSpec := { name := "leafLetters", fn := fun _ => fun
  | [d] => { results := [.lit (.bool true)], args := [d] }
  | _ => none }
def leafLettersRow : OpenClaim := { program := "ytkhcjjdamphbfaa", sum := "6bd1ebbfe62712612621c3e7008c377e47954b87ad472e61ad009df290e856e7", func := "beagle/beaglelaw07.LeafLetters", spec := "leafLetters", plainKeys := false, apart := false }
def LeafLettersSaid : Prop := leafLettersRow.holds Try.pinned (OpenSpec.ofChange leafLettersSpec)

/-- ITS FALSE NEIGHBOUR: 'it returns false'. Refute it at one input. -/
def leafLettersWrong : ChangeSpec := { name := "leafLetters", fn := fun _ => fun
  | [d] => { results := [.lit (.bool false)], args := [d] }
  | _ => none }
def LeafLettersWrongFalsely : Prop := leafLettersRow.holds Try.pinned (OpenSpec.ofChange leafLettersWrong)

/-- 'beaglelaw07.LeafKinds': WHATEVER THE INPUT: true; the input reads as it did. -/
def leafKindsSpec : ChangeSpec := { name := "leafKinds", fn := fun _ => fun
  | [d1, d2] => { results := [.lit (.bool true)], args := [d1, d2] }
  | _ => none }
def leafKindsRow : OpenClaim := { program := "ytkhcjjdamphbfaa", sum := "6bd1ebbfe62712612621c3e7008c377e47954b87ad472e61ad009df290e856e7", func := "beagle/beaglelaw07.LeafKinds", spec := "leafKinds", plainKeys := false, apart := false }
def LeafKindsSaid : Prop := leafKindsRow.holds Try.pinned (OpenSpec.ofChange leafKindsSpec)

/-- ITS FALSE NEIGHBOUR: 'it returns false'. Refute it at one input. -/
def leafKindsWrong : ChangeSpec := { name := "leafKinds", fn := fun _ => fun
  | [d1, d2] => { results := [.lit (.bool false)], args := [d1, d2] }
  | _ => none }
def LeafKindsWrongFalsely : Prop := leafKindsRow.holds Try.pinned (OpenSpec.ofChange leafKindsWrong)

/-- 'beaglelaw07.LeafOnce': WHATEVER THE INPUT: true; the input reads as it did. -/
def leafOnceSpec : ChangeSpec := { name := "leafOnce", fn := fun _ => fun
  | [d] => { results := [.lit (.bool true)], args := [d] }
  | _ => none }
def leafOnceRow : OpenClaim := { program := "ytkhcjjdamphbfaa", sum := "6bd1ebbfe62712612621c3e7008c377e47954b87ad472e61ad009df290e856e7", func := "beagle/beaglelaw07.LeafOnce", spec := "leafOnce", plainKeys := false, apart := false }
def LeafOnceSaid : Prop := leafOnceRow.holds Try.pinned (OpenSpec.ofChange leafOnceSpec)

/-- ITS FALSE NEIGHBOUR: 'it returns false'. Refute it at one input. -/
def leafOnceWrong : ChangeSpec := { name := "leafOnce", fn := fun _ => fun
  | [d] => { results := [.lit (.bool false)], args := [d] }
  | _ => none }
def LeafOnceWrongFalsely : Prop := leafOnceRow.holds Try.pinned (OpenSpec.ofChange leafOnceWrong)

/-- 'beaglelaw07.LeafSame': WHATEVER THE INPUT: true; the input reads as it did. -/
def leafSameSpec : ChangeSpec := { name := "leafSame", fn := fun _ => fun
  | [d1, d2] => { results := [.lit (.bool true)], args := [d1, d2] }
  | _ => none }
def leafSameRow : OpenClaim := { program := "ytkhcjjdamphbfaa", sum := "6bd1ebbfe62712612621c3e7008c377e47954b87ad472e61ad009df290e856e7", func := "beagle/beaglelaw07.LeafSame", spec := "leafSame", plainKeys := false, apart := false }
def LeafSameSaid : Prop := leafSameRow.holds Try.pinned (OpenSpec.ofChange leafSameSpec)

/-- ITS FALSE NEIGHBOUR: 'it returns false'. Refute it at one input. -/
def leafSameWrong : ChangeSpec := { name := "leafSame", fn := fun _ => fun
  | [d1, d2] => { results := [.lit (.bool false)], args := [d1, d2] }
  | _ => none }
def LeafSameWrongFalsely : Prop := leafSameRow.holds Try.pinned (OpenSpec.ofChange leafSameWrong)

/-- 'beaglelaw08.NaiveGreater': WHATEVER THE INPUT: true; the input reads as it did. -/
def naiveGreaterSpec : ChangeSpec := { name := "naiveGreater", fn := fun _ => fun
  | [d1, d2, d3] => { results := [.lit (.bool true)], args := [d1, d2, d3] }
  | _ => none }
def naiveGreaterRow : OpenClaim := { program := "ytkhcjjdamphbfaa", sum := "6bd1ebbfe62712612621c3e7008c377e47954b87ad472e61ad009df290e856e7", func := "beagle/beaglelaw08.NaiveGreater", spec := "naiveGreater", unfollowed := true, recurses := true, plainKeys := false, apart := false }
def NaiveGreaterSaid : Prop := naiveGreaterRow.holds Try.pinned (OpenSpec.ofChange naiveGreaterSpec)

/-- ITS FALSE NEIGHBOUR: 'it returns false'. Refute it at one input. -/
def naiveGreaterWrong : ChangeSpec := { name := "naiveGreater", fn := fun _ => fun
  | [d1, d2, d3] => { results := [.lit (.bool false)], args := [d1, d2, d3] }
  | _ => none }
def NaiveGreaterWrongFalsely : Prop := naiveGreaterRow.holds Try.pinned (OpenSpec.ofChange naiveGreaterWrong)

/-- 'beaglelaw09.ZedRows': WHATEVER THE INPUT: true; the input reads as it did. -/
def zedRowsSpec : ChangeSpec := { name := "zedRows", fn := fun _ => fun
  | [d] => { results := [.lit (.bool true)], args := [d] }
  | _ => none }
def zedRowsRow : OpenClaim := { program := "ytkhcjjdamphbfaa", sum := "6bd1ebbfe62712612621c3e7008c377e47954b87ad472e61ad009df290e856e7", func := "beagle/beaglelaw09.ZedRows", spec := "zedRows", unfollowed := true, recurses := true, plainKeys := false, apart := false }
def ZedRowsSaid : Prop := zedRowsRow.holds Try.pinned (OpenSpec.ofChange zedRowsSpec)

/-- ITS FALSE NEIGHBOUR: 'it returns false'. Refute it at one input. -/
def zedRowsWrong : ChangeSpec := { name := "zedRows", fn := fun _ => fun
  | [d] => { results := [.lit (.bool false)], args := [d] }
  | _ => none }
def ZedRowsWrongFalsely : Prop := zedRowsRow.holds Try.pinned (OpenSpec.ofChange zedRowsWrong)

/-- 'beaglelaw09.ZedFinds': WHATEVER THE INPUT: true; the input reads as it did. -/
def zedFindsSpec : ChangeSpec := { name := "zedFinds", fn := fun _ => fun
  | [d1, d2] => { results := [.lit (.bool true)], args := [d1, d2] }
  | _ => none }
def zedFindsRow : OpenClaim := { program := "ytkhcjjdamphbfaa", sum := "6bd1ebbfe62712612621c3e7008c377e47954b87ad472e61ad009df290e856e7", func := "beagle/beaglelaw09.ZedFinds", spec := "zedFinds", unfollowed := true, recurses := true, plainKeys := false, apart := false }
def ZedFindsSaid : Prop := zedFindsRow.holds Try.pinned (OpenSpec.ofChange zedFindsSpec)

/-- ITS FALSE NEIGHBOUR: 'it returns false'. Refute it at one input. -/
def zedFindsWrong : ChangeSpec := { name := "zedFinds", fn := fun _ => fun
  | [d1, d2] => { results := [.lit (.bool false)], args := [d1, d2] }
  | _ => none }
def ZedFindsWrongFalsely : Prop := zedFindsRow.holds Try.pinned (OpenSpec.ofChange zedFindsWrong)

/-- 'beaglelaw09.ZedLeaves': WHATEVER THE INPUT: true; the input reads as it did. -/
def zedLeavesSpec : ChangeSpec := { name := "zedLeaves", fn := fun _ => fun
  | [d1, d2] => { results := [.lit (.bool true)], args := [d1, d2] }
  | _ => none }
def zedLeavesRow : OpenClaim := { program := "ytkhcjjdamphbfaa", sum := "6bd1ebbfe62712612621c3e7008c377e47954b87ad472e61ad009df290e856e7", func := "beagle/beaglelaw09.ZedLeaves", spec := "zedLeaves", unfollowed := true, recurses := true, plainKeys := false, apart := false }
def ZedLeavesSaid : Prop := zedLeavesRow.holds Try.pinned (OpenSpec.ofChange zedLeavesSpec)

/-- ITS FALSE NEIGHBOUR: 'it returns false'. Refute it at one input. -/
def zedLeavesWrong : ChangeSpec := { name := "zedLeaves", fn := fun _ => fun
  | [d1, d2] => { results := [.lit (.bool false)], args := [d1, d2] }
  | _ => none }
def ZedLeavesWrongFalsely : Prop := zedLeavesRow.holds Try.pinned (OpenSpec.ofChange zedLeavesWrong)

/-- 'beaglelaw09.ZedPeriods': WHATEVER THE INPUT: true; the input reads as it did. -/
def zedPeriodsSpec : ChangeSpec := { name := "zedPeriods", fn := fun _ => fun
  | [d] => { results := [.lit (.bool true)], args := [d] }
  | _ => none }
def zedPeriodsRow : OpenClaim := { program := "ytkhcjjdamphbfaa", sum := "6bd1ebbfe62712612621c3e7008c377e47954b87ad472e61ad009df290e856e7", func := "beagle/beaglelaw09.ZedPeriods", spec := "zedPeriods", unfollowed := true, recurses := true, plainKeys := false, apart := false }
def ZedPeriodsSaid : Prop := zedPeriodsRow.holds Try.pinned (OpenSpec.ofChange zedPeriodsSpec)

/-- ITS FALSE NEIGHBOUR: 'it returns false'. Refute it at one input. -/
def zedPeriodsWrong : ChangeSpec := { name := "zedPeriods", fn := fun _ => fun
  | [d] => { results := [.lit (.bool false)], args := [d] }
  | _ => none }
def ZedPeriodsWrongFalsely : Prop := zedPeriodsRow.holds Try.pinned (OpenSpec.ofChange zedPeriodsWrong)

/-- 'beaglelaw09.ZedWhole': WHATEVER THE INPUT: true; the input reads as it did. -/
def zedWholeSpec : ChangeSpec := { name := "zedWhole", fn := fun _ => fun
  | [d] => { results := [.lit (.bool true)], args := [d] }
  | _ => none }
def zedWholeRow : OpenClaim := { program := "ytkhcjjdamphbfaa", sum := "6bd1ebbfe62712612621c3e7008c377e47954b87ad472e61ad009df290e856e7", func := "beagle/beaglelaw09.ZedWhole", spec := "zedWhole", unfollowed := true, recurses := true, plainKeys := false, apart := false }
def ZedWholeSaid : Prop := zedWholeRow.holds Try.pinned (OpenSpec.ofChange zedWholeSpec)

/-- ITS FALSE NEIGHBOUR: 'it returns false'. Refute it at one input. -/
def zedWholeWrong : ChangeSpec := { name := "zedWhole", fn := fun _ => fun
  | [d] => { results := [.lit (.bool false)], args := [d] }
  | _ => none }
def ZedWholeWrongFalsely : Prop := zedWholeRow.holds Try.pinned (OpenSpec.ofChange zedWholeWrong)

/-- 'beaglelaw09.ZedGreatest': WHATEVER THE INPUT: true; the input reads as it did. -/
def zedGreatestSpec : ChangeSpec := { name := "zedGreatest", fn := fun _ => fun
  | [d1, d2] => { results := [.lit (.bool true)], args := [d1, d2] }
  | _ => none }
def zedGreatestRow : OpenClaim := { program := "ytkhcjjdamphbfaa", sum := "6bd1ebbfe62712612621c3e7008c377e47954b87ad472e61ad009df290e856e7", func := "beagle/beaglelaw09.ZedGreatest", spec := "zedGreatest", unfollowed := true, recurses := true, plainKeys := false, apart := false }
def ZedGreatestSaid : Prop := zedGreatestRow.holds Try.pinned (OpenSpec.ofChange zedGreatestSpec)

/-- ITS FALSE NEIGHBOUR: 'it returns false'. Refute it at one input. -/
def zedGreatestWrong : ChangeSpec := { name := "zedGreatest", fn := fun _ => fun
  | [d1, d2] => { results := [.lit (.bool false)], args := [d1, d2] }
  | _ => none }
def ZedGreatestWrongFalsely : Prop := zedGreatestRow.holds Try.pinned (OpenSpec.ofChange zedGreatestWrong)

/-- 'beaglelaw16.PlanAdmits': WHATEVER THE INPUT: true; the input reads as it did. -/
def planAdmitsSpec : ChangeSpec := { name := "planAdmits", fn := fun _ => fun
  | [d1, d2] => { results := [.lit (.bool true)], args := [d1, d2] }
  | _ => none }
def planAdmitsRow : OpenClaim := { program := "ytkhcjjdamphbfaa", sum := "6bd1ebbfe62712612621c3e7008c377e47954b87ad472e61ad009df290e856e7", func := "beagle/beaglelaw16.PlanAdmits", spec := "planAdmits", unfollowed := true, recurses := true, plainKeys := false, apart := false }
def PlanAdmitsSaid : Prop := planAdmitsRow.holds Try.pinned (OpenSpec.ofChange planAdmitsSpec)

/-- ITS FALSE NEIGHBOUR: 'it returns false'. Refute it at one input. -/
def planAdmitsWrong : ChangeSpec := { name := "planAdmits", fn := fun _ => fun
  | [d1, d2] => { results := [.lit (.bool false)], args := [d1, d2] }
  | _ => none }
def PlanAdmitsWrongFalsely : Prop := planAdmitsRow.holds Try.pinned (OpenSpec.ofChange planAdmitsWrong)

/-- 'beaglelaw16.PlanSized': WHATEVER THE INPUT: true; the input reads as it did. -/
def planSizedSpec : ChangeSpec := { name := "planSized", fn := fun _ => fun
  | [d1, d2, d3] => { results := [.lit (.bool true)], args := [d1, d2, d3] }
  | _ => none }
def planSizedRow : OpenClaim := { program := "ytkhcjjdamphbfaa", sum := "6bd1ebbfe62712612621c3e7008c377e47954b87ad472e61ad009df290e856e7", func := "beagle/beaglelaw16.PlanSized", spec := "planSized", unfollowed := true, recurses := true, plainKeys := false, apart := false }
def PlanSizedSaid : Prop := planSizedRow.holds Try.pinned (OpenSpec.ofChange planSizedSpec)

/-- ITS FALSE NEIGHBOUR: 'it returns false'. Refute it at one input. -/
def planSizedWrong : ChangeSpec := { name := "planSized", fn := fun _ => fun
  | [d1, d2, d3] => { results := [.lit (.bool false)], args := [d1, d2, d3] }
  | _ => none }
def PlanSizedWrongFalsely : Prop := planSizedRow.holds Try.pinned (OpenSpec.ofChange planSizedWrong)

/-- 'beaglelaw16.PlanCosts': WHATEVER THE INPUT: true; the input reads as it did. -/
def planCostsSpec : ChangeSpec := { name := "planCosts", fn := fun _ => fun
  | [d1, d2, d3] => { results := [.lit (.bool true)], args := [d1, d2, d3] }
  | _ => none }
def planCostsRow : OpenClaim := { program := "ytkhcjjdamphbfaa", sum := "6bd1ebbfe62712612621c3e7008c377e47954b87ad472e61ad009df290e856e7", func := "beagle/beaglelaw16.PlanCosts", spec := "planCosts", unfollowed := true, recurses := true, plainKeys := false, apart := false }
def PlanCostsSaid : Prop := planCostsRow.holds Try.pinned (OpenSpec.ofChange planCostsSpec)

/-- ITS FALSE NEIGHBOUR: 'it returns false'. Refute it at one input. -/
def planCostsWrong : ChangeSpec := { name := "planCosts", fn := fun _ => fun
  | [d1, d2, d3] => { results := [.lit (.bool false)], args := [d1, d2, d3] }
  | _ => none }
def PlanCostsWrongFalsely : Prop := planCostsRow.holds Try.pinned (OpenSpec.ofChange planCostsWrong)

/-- 'beaglelaw16.PlanChoice': WHATEVER THE INPUT: true; the input reads as it did. -/
def planChoiceSpec : ChangeSpec := { name := "planChoice", fn := fun _ => fun
  | [d1, d2, d3] => { results := [.lit (.bool true)], args := [d1, d2, d3] }
  | _ => none }
def planChoiceRow : OpenClaim := { program := "ytkhcjjdamphbfaa", sum := "6bd1ebbfe62712612621c3e7008c377e47954b87ad472e61ad009df290e856e7", func := "beagle/beaglelaw16.PlanChoice", spec := "planChoice", unfollowed := true, recurses := true, plainKeys := false, apart := false }
def PlanChoiceSaid : Prop := planChoiceRow.holds Try.pinned (OpenSpec.ofChange planChoiceSpec)

/-- ITS FALSE NEIGHBOUR: 'it returns false'. Refute it at one input. -/
def planChoiceWrong : ChangeSpec := { name := "planChoice", fn := fun _ => fun
  | [d1, d2, d3] => { results := [.lit (.bool false)], args := [d1, d2, d3] }
  | _ => none }
def PlanChoiceWrongFalsely : Prop := planChoiceRow.holds Try.pinned (OpenSpec.ofChange planChoiceWrong)

/-- 'beaglelaw16.PlanLonger': WHATEVER THE INPUT: true; the input reads as it did. -/
def planLongerSpec : ChangeSpec := { name := "planLonger", fn := fun _ => fun
  | [d1, d2, d3] => { results := [.lit (.bool true)], args := [d1, d2, d3] }
  | _ => none }
def planLongerRow : OpenClaim := { program := "ytkhcjjdamphbfaa", sum := "6bd1ebbfe62712612621c3e7008c377e47954b87ad472e61ad009df290e856e7", func := "beagle/beaglelaw16.PlanLonger", spec := "planLonger", unfollowed := true, recurses := true, plainKeys := false, apart := false }
def PlanLongerSaid : Prop := planLongerRow.holds Try.pinned (OpenSpec.ofChange planLongerSpec)

/-- ITS FALSE NEIGHBOUR: 'it returns false'. Refute it at one input. -/
def planLongerWrong : ChangeSpec := { name := "planLonger", fn := fun _ => fun
  | [d1, d2, d3] => { results := [.lit (.bool false)], args := [d1, d2, d3] }
  | _ => none }
def PlanLongerWrongFalsely : Prop := planLongerRow.holds Try.pinned (OpenSpec.ofChange planLongerWrong)

/-- 'beaglelaw16.PlanParts': WHATEVER THE INPUT: true; the input reads as it did. -/
def planPartsSpec : ChangeSpec := { name := "planParts", fn := fun _ => fun
  | [d] => { results := [.lit (.bool true)], args := [d] }
  | _ => none }
def planPartsRow : OpenClaim := { program := "ytkhcjjdamphbfaa", sum := "6bd1ebbfe62712612621c3e7008c377e47954b87ad472e61ad009df290e856e7", func := "beagle/beaglelaw16.PlanParts", spec := "planParts", unfollowed := true, recurses := true, plainKeys := false, apart := false }
def PlanPartsSaid : Prop := planPartsRow.holds Try.pinned (OpenSpec.ofChange planPartsSpec)

/-- ITS FALSE NEIGHBOUR: 'it returns false'. Refute it at one input. -/
def planPartsWrong : ChangeSpec := { name := "planParts", fn := fun _ => fun
  | [d] => { results := [.lit (.bool false)], args := [d] }
  | _ => none }
def PlanPartsWrongFalsely : Prop := planPartsRow.holds Try.pinned (OpenSpec.ofChange planPartsWrong)

/- THE SECOND FORM. 'bulk': how many values and letters a reading holds, each counted each time it is reached (what is shared counts as often as it is met; a slice's spare places count too). A statement '..UptoSaid' is the law's where the arguments, and the package variables that the reading takes, are together of bulk at most 1048576: NARROWER than '..Said'. Prove '..Said' where nothing that the law and all that it calls make is longer than what came in: it says more and counts as full. Else prove '..UptoSaid'. A law counts once. -/
mutual
def uptoBulk {H : Type} : DataW H → Nat
  | .lit (.string bytes) => bytes.length + 1
  | .lit _ => 1
  | .nil => 1
  | .ptr d => uptoBulk d + 1
  | .slice elems spare => uptoBulkAll elems + uptoBulkAll spare + 1
  | .agg parts => uptoBulkAll parts + 1
  | .iface _ d => uptoBulk d + 1
  | .map entries => uptoBulkEntries entries + 1
  | .held _ => 1
def uptoBulkAll {H : Type} : List (DataW H) → Nat
  | [] => 0
  | d :: r => uptoBulk d + uptoBulkAll r
def uptoBulkEntries {H : Type} : List (Lit × DataW H) → Nat
  | [] => 0
  | x :: r => uptoBulkEntry x + uptoBulkEntries r
def uptoBulkEntry {H : Type} : Lit × DataW H → Nat
  | (.string bytes, d) => bytes.length + uptoBulk d + 1
  | (_, d) => uptoBulk d + 1
 end
def uptoSmall : (H : Type) → List (DataW H) → Bool := fun _ ds => decide (uptoBulkAll ds ≤ 1048576)
def OpenSpec.upto (s : _root_.Go.ChangeSpec) : _root_.Go.OpenSpec := { _root_.Go.OpenSpec.ofChange s with cond := some uptoSmall }

/-- 'beaglelaw06.ClassOf', WHERE WHAT IT READS IS OF BULK AT MOST 1048576: true; the input reads as it did. -/
def classOfUptoRow : OpenClaim := { program := "ytkhcjjdamphbfaa", sum := "6bd1ebbfe62712612621c3e7008c377e47954b87ad472e61ad009df290e856e7", func := "beagle/beaglelaw06.ClassOf", spec := "classOf", plainKeys := false, apart := false, narrowed := true }
def ClassOfUptoSaid : Prop := classOfUptoRow.holds Try.pinned (OpenSpec.upto classOfSpec)

/-- 'beaglelaw06.ClassSets', WHERE WHAT IT READS IS OF BULK AT MOST 1048576: true; the input reads as it did. -/
def classSetsUptoRow : OpenClaim := { program := "ytkhcjjdamphbfaa", sum := "6bd1ebbfe62712612621c3e7008c377e47954b87ad472e61ad009df290e856e7", func := "beagle/beaglelaw06.ClassSets", spec := "classSets", plainKeys := false, apart := false, narrowed := true }
def ClassSetsUptoSaid : Prop := classSetsUptoRow.holds Try.pinned (OpenSpec.upto classSetsSpec)

/-- 'beaglelaw06.ClassAsks', WHERE WHAT IT READS IS OF BULK AT MOST 1048576: true; the input reads as it did. -/
def classAsksUptoRow : OpenClaim := { program := "ytkhcjjdamphbfaa", sum := "6bd1ebbfe62712612621c3e7008c377e47954b87ad472e61ad009df290e856e7", func := "beagle/beaglelaw06.ClassAsks", spec := "classAsks", plainKeys := false, apart := false, narrowed := true }
def ClassAsksUptoSaid : Prop := classAsksUptoRow.holds Try.pinned (OpenSpec.upto classAsksSpec)

/-- 'beaglelaw06.ClassRuns', WHERE WHAT IT READS IS OF BULK AT MOST 1048576: true; the input reads as it did. -/
def classRunsUptoRow : OpenClaim := { program := "ytkhcjjdamphbfaa", sum := "6bd1ebbfe62712612621c3e7008c377e47954b87ad472e61ad009df290e856e7", func := "beagle/beaglelaw06.ClassRuns", spec := "classRuns", plainKeys := false, apart := false, narrowed := true }
def ClassRunsUptoSaid : Prop := classRunsUptoRow.holds Try.pinned (OpenSpec.upto classRunsSpec)

/-- 'beaglelaw06.ClassSame', WHERE WHAT IT READS IS OF BULK AT MOST 1048576: true; the input reads as it did. -/
def classSameUptoRow : OpenClaim := { program := "ytkhcjjdamphbfaa", sum := "6bd1ebbfe62712612621c3e7008c377e47954b87ad472e61ad009df290e856e7", func := "beagle/beaglelaw06.ClassSame", spec := "classSame", plainKeys := false, apart := false, narrowed := true }
def ClassSameUptoSaid : Prop := classSameUptoRow.holds Try.pinned (OpenSpec.upto classSameSpec)

/-- 'beaglelaw06.ClassLaws', WHERE WHAT IT READS IS OF BULK AT MOST 1048576: true; the input reads as it did. -/
def classLawsUptoRow : OpenClaim := { program := "ytkhcjjdamphbfaa", sum := "6bd1ebbfe62712612621c3e7008c377e47954b87ad472e61ad009df290e856e7", func := "beagle/beaglelaw06.ClassLaws", spec := "classLaws", plainKeys := false, apart := false, narrowed := true }
def ClassLawsUptoSaid : Prop := classLawsUptoRow.holds Try.pinned (OpenSpec.upto classLawsSpec)

/-- 'beaglelaw08.NaiveCounts', WHERE WHAT IT READS IS OF BULK AT MOST 1048576: true; the input reads as it did. -/
def naiveCountsUptoRow : OpenClaim := { program := "ytkhcjjdamphbfaa", sum := "6bd1ebbfe62712612621c3e7008c377e47954b87ad472e61ad009df290e856e7", func := "beagle/beaglelaw08.NaiveCounts", spec := "naiveCounts", unfollowed := true, recurses := true, plainKeys := false, apart := false, narrowed := true }
def NaiveCountsUptoSaid : Prop := naiveCountsUptoRow.holds Try.pinned (OpenSpec.upto naiveCountsSpec)

/-- 'beaglelaw08.NaiveFinds', WHERE WHAT IT READS IS OF BULK AT MOST 1048576: true; the input reads as it did. -/
def naiveFindsUptoRow : OpenClaim := { program := "ytkhcjjdamphbfaa", sum := "6bd1ebbfe62712612621c3e7008c377e47954b87ad472e61ad009df290e856e7", func := "beagle/beaglelaw08.NaiveFinds", spec := "naiveFinds", unfollowed := true, recurses := true, plainKeys := false, apart := false, narrowed := true }
def NaiveFindsUptoSaid : Prop := naiveFindsUptoRow.holds Try.pinned (OpenSpec.upto naiveFindsSpec)

/-- 'beaglelaw08.NaiveHits', WHERE WHAT IT READS IS OF BULK AT MOST 1048576: true; the input reads as it did. -/
def naiveHitsUptoRow : OpenClaim := { program := "ytkhcjjdamphbfaa", sum := "6bd1ebbfe62712612621c3e7008c377e47954b87ad472e61ad009df290e856e7", func := "beagle/beaglelaw08.NaiveHits", spec := "naiveHits", unfollowed := true, recurses := true, plainKeys := false, apart := false, narrowed := true }
def NaiveHitsUptoSaid : Prop := naiveHitsUptoRow.holds Try.pinned (OpenSpec.upto naiveHitsSpec)

/-- 'beaglelaw08.NaiveParts', WHERE WHAT IT READS IS OF BULK AT MOST 1048576: true; the input reads as it did. -/
def naivePartsUptoRow : OpenClaim := { program := "ytkhcjjdamphbfaa", sum := "6bd1ebbfe62712612621c3e7008c377e47954b87ad472e61ad009df290e856e7", func := "beagle/beaglelaw08.NaiveParts", spec := "naiveParts", unfollowed := true, recurses := true, plainKeys := false, apart := false, narrowed := true }
def NaivePartsUptoSaid : Prop := naivePartsUptoRow.holds Try.pinned (OpenSpec.upto naivePartsSpec)

/-- 'beaglelaw08.NaiveMore', WHERE WHAT IT READS IS OF BULK AT MOST 1048576: true; the input reads as it did. -/
def naiveMoreUptoRow : OpenClaim := { program := "ytkhcjjdamphbfaa", sum := "6bd1ebbfe62712612621c3e7008c377e47954b87ad472e61ad009df290e856e7", func := "beagle/beaglelaw08.NaiveMore", spec := "naiveMore", unfollowed := true, recurses := true, plainKeys := false, apart := false, narrowed := true }
def NaiveMoreUptoSaid : Prop := naiveMoreUptoRow.holds Try.pinned (OpenSpec.upto naiveMoreSpec)

/-- 'beaglelaw07.LeafRight', WHERE WHAT IT READS IS OF BULK AT MOST 1048576: true; the input reads as it did. -/
def leafRightUptoRow : OpenClaim := { program := "ytkhcjjdamphbfaa", sum := "6bd1ebbfe62712612621c3e7008c377e47954b87ad472e61ad009df290e856e7", func := "beagle/beaglelaw07.LeafRight", spec := "leafRight", plainKeys := false, apart := false, narrowed := true }
def LeafRightUptoSaid : Prop := leafRightUptoRow.holds Try.pinned (OpenSpec.upto leafRightSpec)

/-- 'beaglelaw07.LeafTexts', WHERE WHAT IT READS IS OF BULK AT MOST 1048576: true; the input reads as it did. -/
def leafTextsUptoRow : OpenClaim := { program := "ytkhcjjdamphbfaa", sum := "6bd1ebbfe62712612621c3e7008c377e47954b87ad472e61ad009df290e856e7", func := "beagle/beaglelaw07.LeafTexts", spec := "leafTexts", plainKeys := false, apart := false, narrowed := true }
def LeafTextsUptoSaid : Prop := leafTextsUptoRow.holds Try.pinned (OpenSpec.upto leafTextsSpec)

/-- 'beaglelaw07.LeafLetters', WHERE WHAT IT READS IS OF BULK AT MOST 1048576: true; the input reads as it did. -/
def leafLettersUptoRow : OpenClaim := { program := "ytkhcjjdamphbfaa", sum := "6bd1ebbfe62712612621c3e7008c377e47954b87ad472e61ad009df290e856e7", func := "beagle/beaglelaw07.LeafLetters", spec := "leafLetters", plainKeys := false, apart := false, narrowed := true }
def LeafLettersUptoSaid : Prop := leafLettersUptoRow.holds Try.pinned (OpenSpec.upto leafLettersSpec)

/-- 'beaglelaw07.LeafKinds', WHERE WHAT IT READS IS OF BULK AT MOST 1048576: true; the input reads as it did. -/
def leafKindsUptoRow : OpenClaim := { program := "ytkhcjjdamphbfaa", sum := "6bd1ebbfe62712612621c3e7008c377e47954b87ad472e61ad009df290e856e7", func := "beagle/beaglelaw07.LeafKinds", spec := "leafKinds", plainKeys := false, apart := false, narrowed := true }
def LeafKindsUptoSaid : Prop := leafKindsUptoRow.holds Try.pinned (OpenSpec.upto leafKindsSpec)

/-- 'beaglelaw07.LeafOnce', WHERE WHAT IT READS IS OF BULK AT MOST 1048576: true; the input reads as it did. -/
def leafOnceUptoRow : OpenClaim := { program := "ytkhcjjdamphbfaa", sum := "6bd1ebbfe62712612621c3e7008c377e47954b87ad472e61ad009df290e856e7", func := "beagle/beaglelaw07.LeafOnce", spec := "leafOnce", plainKeys := false, apart := false, narrowed := true }
def LeafOnceUptoSaid : Prop := leafOnceUptoRow.holds Try.pinned (OpenSpec.upto leafOnceSpec)

/-- 'beaglelaw07.LeafSame', WHERE WHAT IT READS IS OF BULK AT MOST 1048576: true; the input reads as it did. -/
def leafSameUptoRow : OpenClaim := { program := "ytkhcjjdamphbfaa", sum := "6bd1ebbfe62712612621c3e7008c377e47954b87ad472e61ad009df290e856e7", func := "beagle/beaglelaw07.LeafSame", spec := "leafSame", plainKeys := false, apart := false, narrowed := true }
def LeafSameUptoSaid : Prop := leafSameUptoRow.holds Try.pinned (OpenSpec.upto leafSameSpec)

/-- 'beaglelaw08.NaiveGreater', WHERE WHAT IT READS IS OF BULK AT MOST 1048576: true; the input reads as it did. -/
def naiveGreaterUptoRow : OpenClaim := { program := "ytkhcjjdamphbfaa", sum := "6bd1ebbfe62712612621c3e7008c377e47954b87ad472e61ad009df290e856e7", func := "beagle/beaglelaw08.NaiveGreater", spec := "naiveGreater", unfollowed := true, recurses := true, plainKeys := false, apart := false, narrowed := true }
def NaiveGreaterUptoSaid : Prop := naiveGreaterUptoRow.holds Try.pinned (OpenSpec.upto naiveGreaterSpec)

/-- 'beaglelaw09.ZedRows', WHERE WHAT IT READS IS OF BULK AT MOST 1048576: true; the input reads as it did. -/
def zedRowsUptoRow : OpenClaim := { program := "ytkhcjjdamphbfaa", sum := "6bd1ebbfe62712612621c3e7008c377e47954b87ad472e61ad009df290e856e7", func := "beagle/beaglelaw09.ZedRows", spec := "zedRows", unfollowed := true, recurses := true, plainKeys := false, apart := false, narrowed := true }
def ZedRowsUptoSaid : Prop := zedRowsUptoRow.holds Try.pinned (OpenSpec.upto zedRowsSpec)

/-- 'beaglelaw09.ZedFinds', WHERE WHAT IT READS IS OF BULK AT MOST 1048576: true; the input reads as it did. -/
def zedFindsUptoRow : OpenClaim := { program := "ytkhcjjdamphbfaa", sum := "6bd1ebbfe62712612621c3e7008c377e47954b87ad472e61ad009df290e856e7", func := "beagle/beaglelaw09.ZedFinds", spec := "zedFinds", unfollowed := true, recurses := true, plainKeys := false, apart := false, narrowed := true }
def ZedFindsUptoSaid : Prop := zedFindsUptoRow.holds Try.pinned (OpenSpec.upto zedFindsSpec)

/-- 'beaglelaw09.ZedLeaves', WHERE WHAT IT READS IS OF BULK AT MOST 1048576: true; the input reads as it did. -/
def zedLeavesUptoRow : OpenClaim := { program := "ytkhcjjdamphbfaa", sum := "6bd1ebbfe62712612621c3e7008c377e47954b87ad472e61ad009df290e856e7", func := "beagle/beaglelaw09.ZedLeaves", spec := "zedLeaves", unfollowed := true, recurses := true, plainKeys := false, apart := false, narrowed := true }
def ZedLeavesUptoSaid : Prop := zedLeavesUptoRow.holds Try.pinned (OpenSpec.upto zedLeavesSpec)

/-- 'beaglelaw09.ZedPeriods', WHERE WHAT IT READS IS OF BULK AT MOST 1048576: true; the input reads as it did. -/
def zedPeriodsUptoRow : OpenClaim := { program := "ytkhcjjdamphbfaa", sum := "6bd1ebbfe62712612621c3e7008c377e47954b87ad472e61ad009df290e856e7", func := "beagle/beaglelaw09.ZedPeriods", spec := "zedPeriods", unfollowed := true, recurses := true, plainKeys := false, apart := false, narrowed := true }
def ZedPeriodsUptoSaid : Prop := zedPeriodsUptoRow.holds Try.pinned (OpenSpec.upto zedPeriodsSpec)

/-- 'beaglelaw09.ZedWhole', WHERE WHAT IT READS IS OF BULK AT MOST 1048576: true; the input reads as it did. -/
def zedWholeUptoRow : OpenClaim := { program := "ytkhcjjdamphbfaa", sum := "6bd1ebbfe62712612621c3e7008c377e47954b87ad472e61ad009df290e856e7", func := "beagle/beaglelaw09.ZedWhole", spec := "zedWhole", unfollowed := true, recurses := true, plainKeys := false, apart := false, narrowed := true }
def ZedWholeUptoSaid : Prop := zedWholeUptoRow.holds Try.pinned (OpenSpec.upto zedWholeSpec)

/-- 'beaglelaw09.ZedGreatest', WHERE WHAT IT READS IS OF BULK AT MOST 1048576: true; the input reads as it did. -/
def zedGreatestUptoRow : OpenClaim := { program := "ytkhcjjdamphbfaa", sum := "6bd1ebbfe62712612621c3e7008c377e47954b87ad472e61ad009df290e856e7", func := "beagle/beaglelaw09.ZedGreatest", spec := "zedGreatest", unfollowed := true, recurses := true, plainKeys := false, apart := false, narrowed := true }
def ZedGreatestUptoSaid : Prop := zedGreatestUptoRow.holds Try.pinned (OpenSpec.upto zedGreatestSpec)

/-- 'beaglelaw16.PlanAdmits', WHERE WHAT IT READS IS OF BULK AT MOST 1048576: true; the input reads as it did. -/
def planAdmitsUptoRow : OpenClaim := { program := "ytkhcjjdamphbfaa", sum := "6bd1ebbfe62712612621c3e7008c377e47954b87ad472e61ad009df290e856e7", func := "beagle/beaglelaw16.PlanAdmits", spec := "planAdmits", unfollowed := true, recurses := true, plainKeys := false, apart := false, narrowed := true }
def PlanAdmitsUptoSaid : Prop := planAdmitsUptoRow.holds Try.pinned (OpenSpec.upto planAdmitsSpec)

/-- 'beaglelaw16.PlanSized', WHERE WHAT IT READS IS OF BULK AT MOST 1048576: true; the input reads as it did. -/
def planSizedUptoRow : OpenClaim := { program := "ytkhcjjdamphbfaa", sum := "6bd1ebbfe62712612621c3e7008c377e47954b87ad472e61ad009df290e856e7", func := "beagle/beaglelaw16.PlanSized", spec := "planSized", unfollowed := true, recurses := true, plainKeys := false, apart := false, narrowed := true }
def PlanSizedUptoSaid : Prop := planSizedUptoRow.holds Try.pinned (OpenSpec.upto planSizedSpec)

/-- 'beaglelaw16.PlanCosts', WHERE WHAT IT READS IS OF BULK AT MOST 1048576: true; the input reads as it did. -/
def planCostsUptoRow : OpenClaim := { program := "ytkhcjjdamphbfaa", sum := "6bd1ebbfe62712612621c3e7008c377e47954b87ad472e61ad009df290e856e7", func := "beagle/beaglelaw16.PlanCosts", spec := "planCosts", unfollowed := true, recurses := true, plainKeys := false, apart := false, narrowed := true }
def PlanCostsUptoSaid : Prop := planCostsUptoRow.holds Try.pinned (OpenSpec.upto planCostsSpec)

/-- 'beaglelaw16.PlanChoice', WHERE WHAT IT READS IS OF BULK AT MOST 1048576: true; the input reads as it did. -/
def planChoiceUptoRow : OpenClaim := { program := "ytkhcjjdamphbfaa", sum := "6bd1ebbfe62712612621c3e7008c377e47954b87ad472e61ad009df290e856e7", func := "beagle/beaglelaw16.PlanChoice", spec := "planChoice", unfollowed := true, recurses := true, plainKeys := false, apart := false, narrowed := true }
def PlanChoiceUptoSaid : Prop := planChoiceUptoRow.holds Try.pinned (OpenSpec.upto planChoiceSpec)

/-- 'beaglelaw16.PlanLonger', WHERE WHAT IT READS IS OF BULK AT MOST 1048576: true; the input reads as it did. -/
def planLongerUptoRow : OpenClaim := { program := "ytkhcjjdamphbfaa", sum := "6bd1ebbfe62712612621c3e7008c377e47954b87ad472e61ad009df290e856e7", func := "beagle/beaglelaw16.PlanLonger", spec := "planLonger", unfollowed := true, recurses := true, plainKeys := false, apart := false, narrowed := true }
def PlanLongerUptoSaid : Prop := planLongerUptoRow.holds Try.pinned (OpenSpec.upto planLongerSpec)

/-- 'beaglelaw16.PlanParts', WHERE WHAT IT READS IS OF BULK AT MOST 1048576: true; the input reads as it did. -/
def planPartsUptoRow : OpenClaim := { program := "ytkhcjjdamphbfaa", sum := "6bd1ebbfe62712612621c3e7008c377e47954b87ad472e61ad009df290e856e7", func := "beagle/beaglelaw16.PlanParts", spec := "planParts", unfollowed := true, recurses := true, plainKeys := false, apart := false, narrowed := true }
def PlanPartsUptoSaid : Prop := planPartsUptoRow.holds Try.pinned (OpenSpec.upto planPartsSpec)

end Rows
end Go.Proofs.Ytkhcjjdamphbfaa
