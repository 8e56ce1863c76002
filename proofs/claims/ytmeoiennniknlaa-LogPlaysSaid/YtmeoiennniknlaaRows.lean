/-
  No cell of these rows narrows 'for every input' (looked for: loops, veiled, ifaces, maps, wideKeys, modest, calm, conditions, laid).
  DERIVED. THE GIVEN ROWS OF THIS SEAT. 13 by the template 'for every input the law returns true; each argument reads behind the call as it read before'; 0 by the template 'total and deterministic' (their statements: YtmeoiennniknlaaTotals.lean).
  GIVEN WITH THE SEED: the statements are not yours to turn. If you find one false, say at which input.
  Laid BY PROGRAM, IN A SANDBOX (cutbox-rows.mjs): the forced cells as the released guide's own fill.sh prints them over the translation c7b8924c17df9bd5… (all of the seat's roots in one cut). By AI agents, Wed Nov 11 2026. No macro, syntax, notation, axiom, sorry.
-/
import Derived.Test.YtmeoiennniknlaaChecked
import GoSem.Claim
import GoSem.ClaimJoined
import GoSem.ClaimMapViews
import Derived.JoinedTies
import Derived.KernelRfl
namespace Go.Proofs.Ytmeoiennniknlaa
/- THE CELL 'sum', in the pinned program and in every row, IS THE sha256 OF THE DUMP (.gsa) THAT YtmeoiennniknlaaProg.lean LOADS. Nothing in Lean hashes anything: it is a label: what it is worth is what the hold of that sum in a sandbox is worth. -/
noncomputable def Try.pinned : Pinned := { name := "ytmeoiennniknlaa", sum := "c7b8924c17df9bd58ea08d32c470041c80e18cfdd02b8de73914ce292c274373", checked := Try.checked }
namespace Rows
def none {H : Type} : Left H := { results := [], args := [] }

/-- 'gimmallaw02.SumsOf': WHATEVER THE INPUT: true; the input reads as it did. -/
def sumsOfSpec : ChangeSpec := { name := "sumsOf", fn := fun _ => fun
  | [d1, d2] => { results := [.lit (.bool true)], args := [d1, d2] }
  | _ => none }
def sumsOfRow : OpenClaim := { program := "ytmeoiennniknlaa", sum := "c7b8924c17df9bd58ea08d32c470041c80e18cfdd02b8de73914ce292c274373", func := "gimmal/gimmallaw02.SumsOf", spec := "sumsOf", unfollowed := true, recurses := true, apart := false }
def SumsOfSaid : Prop := sumsOfRow.holds Try.pinned (OpenSpec.ofChange sumsOfSpec)

/-- ITS FALSE NEIGHBOUR: 'it returns false'. Refute it at one input. -/
def sumsOfWrong : ChangeSpec := { name := "sumsOf", fn := fun _ => fun
  | [d1, d2] => { results := [.lit (.bool false)], args := [d1, d2] }
  | _ => none }
def SumsOfWrongFalsely : Prop := sumsOfRow.holds Try.pinned (OpenSpec.ofChange sumsOfWrong)

/-- 'gimmallaw02.SumsApart': WHATEVER THE INPUT: true; the input reads as it did. -/
def sumsApartSpec : ChangeSpec := { name := "sumsApart", fn := fun _ => fun
  | [d1, d2, d3, d4, d5] => { results := [.lit (.bool true)], args := [d1, d2, d3, d4, d5] }
  | _ => none }
def sumsApartRow : OpenClaim := { program := "ytmeoiennniknlaa", sum := "c7b8924c17df9bd58ea08d32c470041c80e18cfdd02b8de73914ce292c274373", func := "gimmal/gimmallaw02.SumsApart", spec := "sumsApart", unfollowed := true, recurses := true, apart := false }
def SumsApartSaid : Prop := sumsApartRow.holds Try.pinned (OpenSpec.ofChange sumsApartSpec)

/-- ITS FALSE NEIGHBOUR: 'it returns false'. Refute it at one input. -/
def sumsApartWrong : ChangeSpec := { name := "sumsApart", fn := fun _ => fun
  | [d1, d2, d3, d4, d5] => { results := [.lit (.bool false)], args := [d1, d2, d3, d4, d5] }
  | _ => none }
def SumsApartWrongFalsely : Prop := sumsApartRow.holds Try.pinned (OpenSpec.ofChange sumsApartWrong)

/-- 'gimmallaw02.SumsMarks': WHATEVER THE INPUT: true; the input reads as it did. -/
def sumsMarksSpec : ChangeSpec := { name := "sumsMarks", fn := fun _ => fun
  | [d1, d2, d3, d4] => { results := [.lit (.bool true)], args := [d1, d2, d3, d4] }
  | _ => none }
def sumsMarksRow : OpenClaim := { program := "ytmeoiennniknlaa", sum := "c7b8924c17df9bd58ea08d32c470041c80e18cfdd02b8de73914ce292c274373", func := "gimmal/gimmallaw02.SumsMarks", spec := "sumsMarks", unfollowed := true, recurses := true, apart := false }
def SumsMarksSaid : Prop := sumsMarksRow.holds Try.pinned (OpenSpec.ofChange sumsMarksSpec)

/-- ITS FALSE NEIGHBOUR: 'it returns false'. Refute it at one input. -/
def sumsMarksWrong : ChangeSpec := { name := "sumsMarks", fn := fun _ => fun
  | [d1, d2, d3, d4] => { results := [.lit (.bool false)], args := [d1, d2, d3, d4] }
  | _ => none }
def SumsMarksWrongFalsely : Prop := sumsMarksRow.holds Try.pinned (OpenSpec.ofChange sumsMarksWrong)

/-- 'gimmallaw02.SumsTurned': WHATEVER THE INPUT: true; the input reads as it did. -/
def sumsTurnedSpec : ChangeSpec := { name := "sumsTurned", fn := fun _ => fun
  | [d1, d2, d3, d4, d5] => { results := [.lit (.bool true)], args := [d1, d2, d3, d4, d5] }
  | _ => none }
def sumsTurnedRow : OpenClaim := { program := "ytmeoiennniknlaa", sum := "c7b8924c17df9bd58ea08d32c470041c80e18cfdd02b8de73914ce292c274373", func := "gimmal/gimmallaw02.SumsTurned", spec := "sumsTurned", unfollowed := true, recurses := true, apart := false }
def SumsTurnedSaid : Prop := sumsTurnedRow.holds Try.pinned (OpenSpec.ofChange sumsTurnedSpec)

/-- ITS FALSE NEIGHBOUR: 'it returns false'. Refute it at one input. -/
def sumsTurnedWrong : ChangeSpec := { name := "sumsTurned", fn := fun _ => fun
  | [d1, d2, d3, d4, d5] => { results := [.lit (.bool false)], args := [d1, d2, d3, d4, d5] }
  | _ => none }
def SumsTurnedWrongFalsely : Prop := sumsTurnedRow.holds Try.pinned (OpenSpec.ofChange sumsTurnedWrong)

/-- 'gimmallaw06.FramesOne': WHATEVER THE INPUT: true; the input reads as it did. -/
def framesOneSpec : ChangeSpec := { name := "framesOne", fn := fun _ => fun
  | [d1, d2, d3, d4] => { results := [.lit (.bool true)], args := [d1, d2, d3, d4] }
  | _ => none }
def framesOneRow : OpenClaim := { program := "ytmeoiennniknlaa", sum := "c7b8924c17df9bd58ea08d32c470041c80e18cfdd02b8de73914ce292c274373", func := "gimmal/gimmallaw06.FramesOne", spec := "framesOne", unfollowed := true, recurses := true, apart := false }
def FramesOneSaid : Prop := framesOneRow.holds Try.pinned (OpenSpec.ofChange framesOneSpec)

/-- ITS FALSE NEIGHBOUR: 'it returns false'. Refute it at one input. -/
def framesOneWrong : ChangeSpec := { name := "framesOne", fn := fun _ => fun
  | [d1, d2, d3, d4] => { results := [.lit (.bool false)], args := [d1, d2, d3, d4] }
  | _ => none }
def FramesOneWrongFalsely : Prop := framesOneRow.holds Try.pinned (OpenSpec.ofChange framesOneWrong)

/-- 'gimmallaw06.FramesGet': WHATEVER THE INPUT: true; the input reads as it did. -/
def framesGetSpec : ChangeSpec := { name := "framesGet", fn := fun _ => fun
  | [d1, d2, d3] => { results := [.lit (.bool true)], args := [d1, d2, d3] }
  | _ => none }
def framesGetRow : OpenClaim := { program := "ytmeoiennniknlaa", sum := "c7b8924c17df9bd58ea08d32c470041c80e18cfdd02b8de73914ce292c274373", func := "gimmal/gimmallaw06.FramesGet", spec := "framesGet", unfollowed := true, recurses := true, apart := false }
def FramesGetSaid : Prop := framesGetRow.holds Try.pinned (OpenSpec.ofChange framesGetSpec)

/-- ITS FALSE NEIGHBOUR: 'it returns false'. Refute it at one input. -/
def framesGetWrong : ChangeSpec := { name := "framesGet", fn := fun _ => fun
  | [d1, d2, d3] => { results := [.lit (.bool false)], args := [d1, d2, d3] }
  | _ => none }
def FramesGetWrongFalsely : Prop := framesGetRow.holds Try.pinned (OpenSpec.ofChange framesGetWrong)

/-- 'gimmallaw06.FramesStream': WHATEVER THE INPUT: true; the input reads as it did. -/
def framesStreamSpec : ChangeSpec := { name := "framesStream", fn := fun _ => fun
  | [d1, d2, d3, d4] => { results := [.lit (.bool true)], args := [d1, d2, d3, d4] }
  | _ => none }
def framesStreamRow : OpenClaim := { program := "ytmeoiennniknlaa", sum := "c7b8924c17df9bd58ea08d32c470041c80e18cfdd02b8de73914ce292c274373", func := "gimmal/gimmallaw06.FramesStream", spec := "framesStream", unfollowed := true, recurses := true, apart := false }
def FramesStreamSaid : Prop := framesStreamRow.holds Try.pinned (OpenSpec.ofChange framesStreamSpec)

/-- ITS FALSE NEIGHBOUR: 'it returns false'. Refute it at one input. -/
def framesStreamWrong : ChangeSpec := { name := "framesStream", fn := fun _ => fun
  | [d1, d2, d3, d4] => { results := [.lit (.bool false)], args := [d1, d2, d3, d4] }
  | _ => none }
def FramesStreamWrongFalsely : Prop := framesStreamRow.holds Try.pinned (OpenSpec.ofChange framesStreamWrong)

/-- 'gimmallaw06.FramesMore': WHATEVER THE INPUT: true; the input reads as it did. -/
def framesMoreSpec : ChangeSpec := { name := "framesMore", fn := fun _ => fun
  | [d1, d2, d3] => { results := [.lit (.bool true)], args := [d1, d2, d3] }
  | _ => none }
def framesMoreRow : OpenClaim := { program := "ytmeoiennniknlaa", sum := "c7b8924c17df9bd58ea08d32c470041c80e18cfdd02b8de73914ce292c274373", func := "gimmal/gimmallaw06.FramesMore", spec := "framesMore", unfollowed := true, recurses := true, apart := false }
def FramesMoreSaid : Prop := framesMoreRow.holds Try.pinned (OpenSpec.ofChange framesMoreSpec)

/-- ITS FALSE NEIGHBOUR: 'it returns false'. Refute it at one input. -/
def framesMoreWrong : ChangeSpec := { name := "framesMore", fn := fun _ => fun
  | [d1, d2, d3] => { results := [.lit (.bool false)], args := [d1, d2, d3] }
  | _ => none }
def FramesMoreWrongFalsely : Prop := framesMoreRow.holds Try.pinned (OpenSpec.ofChange framesMoreWrong)

/-- 'gimmallaw07.AnchorSectors': WHATEVER THE INPUT: true; the input reads as it did. -/
def anchorSectorsSpec : ChangeSpec := { name := "anchorSectors", fn := fun _ => fun
  | [d1, d2] => { results := [.lit (.bool true)], args := [d1, d2] }
  | _ => none }
def anchorSectorsRow : OpenClaim := { program := "ytmeoiennniknlaa", sum := "c7b8924c17df9bd58ea08d32c470041c80e18cfdd02b8de73914ce292c274373", func := "gimmal/gimmallaw07.AnchorSectors", spec := "anchorSectors", unfollowed := true, recurses := true, apart := false }
def AnchorSectorsSaid : Prop := anchorSectorsRow.holds Try.pinned (OpenSpec.ofChange anchorSectorsSpec)

/-- ITS FALSE NEIGHBOUR: 'it returns false'. Refute it at one input. -/
def anchorSectorsWrong : ChangeSpec := { name := "anchorSectors", fn := fun _ => fun
  | [d1, d2] => { results := [.lit (.bool false)], args := [d1, d2] }
  | _ => none }
def AnchorSectorsWrongFalsely : Prop := anchorSectorsRow.holds Try.pinned (OpenSpec.ofChange anchorSectorsWrong)

/-- 'gimmallaw07.AnchorFinds': WHATEVER THE INPUT: true; the input reads as it did. -/
def anchorFindsSpec : ChangeSpec := { name := "anchorFinds", fn := fun _ => fun
  | [d1, d2] => { results := [.lit (.bool true)], args := [d1, d2] }
  | _ => none }
def anchorFindsRow : OpenClaim := { program := "ytmeoiennniknlaa", sum := "c7b8924c17df9bd58ea08d32c470041c80e18cfdd02b8de73914ce292c274373", func := "gimmal/gimmallaw07.AnchorFinds", spec := "anchorFinds", unfollowed := true, recurses := true, apart := false }
def AnchorFindsSaid : Prop := anchorFindsRow.holds Try.pinned (OpenSpec.ofChange anchorFindsSpec)

/-- ITS FALSE NEIGHBOUR: 'it returns false'. Refute it at one input. -/
def anchorFindsWrong : ChangeSpec := { name := "anchorFinds", fn := fun _ => fun
  | [d1, d2] => { results := [.lit (.bool false)], args := [d1, d2] }
  | _ => none }
def AnchorFindsWrongFalsely : Prop := anchorFindsRow.holds Try.pinned (OpenSpec.ofChange anchorFindsWrong)

/-- 'gimmallaw07.AnchorGreater': WHATEVER THE INPUT: true; the input reads as it did. -/
def anchorGreaterSpec : ChangeSpec := { name := "anchorGreater", fn := fun _ => fun
  | [d1, d2] => { results := [.lit (.bool true)], args := [d1, d2] }
  | _ => none }
def anchorGreaterRow : OpenClaim := { program := "ytmeoiennniknlaa", sum := "c7b8924c17df9bd58ea08d32c470041c80e18cfdd02b8de73914ce292c274373", func := "gimmal/gimmallaw07.AnchorGreater", spec := "anchorGreater", unfollowed := true, recurses := true, apart := false }
def AnchorGreaterSaid : Prop := anchorGreaterRow.holds Try.pinned (OpenSpec.ofChange anchorGreaterSpec)

/-- ITS FALSE NEIGHBOUR: 'it returns false'. Refute it at one input. -/
def anchorGreaterWrong : ChangeSpec := { name := "anchorGreater", fn := fun _ => fun
  | [d1, d2] => { results := [.lit (.bool false)], args := [d1, d2] }
  | _ => none }
def AnchorGreaterWrongFalsely : Prop := anchorGreaterRow.holds Try.pinned (OpenSpec.ofChange anchorGreaterWrong)

/-- 'gimmallaw07.AnchorLasts': WHATEVER THE INPUT: true; the input reads as it did. -/
def anchorLastsSpec : ChangeSpec := { name := "anchorLasts", fn := fun _ => fun
  | [d1, d2, d3] => { results := [.lit (.bool true)], args := [d1, d2, d3] }
  | _ => none }
def anchorLastsRow : OpenClaim := { program := "ytmeoiennniknlaa", sum := "c7b8924c17df9bd58ea08d32c470041c80e18cfdd02b8de73914ce292c274373", func := "gimmal/gimmallaw07.AnchorLasts", spec := "anchorLasts", unfollowed := true, recurses := true, apart := false }
def AnchorLastsSaid : Prop := anchorLastsRow.holds Try.pinned (OpenSpec.ofChange anchorLastsSpec)

/-- ITS FALSE NEIGHBOUR: 'it returns false'. Refute it at one input. -/
def anchorLastsWrong : ChangeSpec := { name := "anchorLasts", fn := fun _ => fun
  | [d1, d2, d3] => { results := [.lit (.bool false)], args := [d1, d2, d3] }
  | _ => none }
def AnchorLastsWrongFalsely : Prop := anchorLastsRow.holds Try.pinned (OpenSpec.ofChange anchorLastsWrong)

/-- 'gimmallaw08.LogPlays': WHATEVER THE INPUT: true; the input reads as it did. -/
def logPlaysSpec : ChangeSpec := { name := "logPlays", fn := fun _ => fun
  | [d1, d2, d3, d4, d5] => { results := [.lit (.bool true)], args := [d1, d2, d3, d4, d5] }
  | _ => none }
def logPlaysRow : OpenClaim := { program := "ytmeoiennniknlaa", sum := "c7b8924c17df9bd58ea08d32c470041c80e18cfdd02b8de73914ce292c274373", func := "gimmal/gimmallaw08.LogPlays", spec := "logPlays", unfollowed := true, recurses := true, apart := false }
def LogPlaysSaid : Prop := logPlaysRow.holds Try.pinned (OpenSpec.ofChange logPlaysSpec)

/-- ITS FALSE NEIGHBOUR: 'it returns false'. Refute it at one input. -/
def logPlaysWrong : ChangeSpec := { name := "logPlays", fn := fun _ => fun
  | [d1, d2, d3, d4, d5] => { results := [.lit (.bool false)], args := [d1, d2, d3, d4, d5] }
  | _ => none }
def LogPlaysWrongFalsely : Prop := logPlaysRow.holds Try.pinned (OpenSpec.ofChange logPlaysWrong)

/- THE SECOND FORM. 'bulk': how many values and letters a reading holds, each counted each time it is reached (what is shared counts as often as it is met; a slice's spare places count too). A statement '..UptoSaid' is the law's where the arguments, and the package variables that the reading takes, are together of bulk at most 1048576: NARROWER than '..Said'. Prove '..Said' where nothing that the law and all that it calls make is longer than what came in: it says more and counts as full. Else prove '..UptoSaid'. A law counts once. -/
mutual
def uptoBulk {H : Type} : DataW H → Nat
  | .lit (.string bytes) => bytes.length + 1
  | .lit _ => 1
  | .nil => 1
  | .ptr d => uptoBulk d + 1
  | .slice elems spare => uptoBulkAll elems + uptoBulkAll spare + 1
  | .agg parts => uptoBulkAll parts + 1
  | .iface _ d => uptoBulk d + 1
  | .map entries => uptoBulkEntries entries + 1
  | .held _ => 1
def uptoBulkAll {H : Type} : List (DataW H) → Nat
  | [] => 0
  | d :: r => uptoBulk d + uptoBulkAll r
def uptoBulkEntries {H : Type} : List (Lit × DataW H) → Nat
  | [] => 0
  | x :: r => uptoBulkEntry x + uptoBulkEntries r
def uptoBulkEntry {H : Type} : Lit × DataW H → Nat
  | (.string bytes, d) => bytes.length + uptoBulk d + 1
  | (_, d) => uptoBulk d + 1
 end
def uptoSmall : (H : Type) → List (DataW H) → Bool := fun _ ds => decide (uptoBulkAll ds ≤ 1048576)
def OpenSpec.upto (s : _root_.Go.ChangeSpec) : _root_.Go.OpenSpec := { _root_.Go.OpenSpec.ofChange s with cond := some uptoSmall }

/-- 'gimmallaw02.SumsOf', WHERE WHAT IT READS IS OF BULK AT MOST 1048576: true; the input reads as it did. -/
def sumsOfUptoRow : OpenClaim := { program := "ytmeoiennniknlaa", sum := "c7b8924c17df9bd58ea08d32c470041c80e18cfdd02b8de73914ce292c274373", func := "gimmal/gimmallaw02.SumsOf", spec := "sumsOf", unfollowed := true, recurses := true, apart := false, narrowed := true }
def SumsOfUptoSaid : Prop := sumsOfUptoRow.holds Try.pinned (OpenSpec.upto sumsOfSpec)

/-- 'gimmallaw02.SumsApart', WHERE WHAT IT READS IS OF BULK AT MOST 1048576: true; the input reads as it did. -/
def sumsApartUptoRow : OpenClaim := { program := "ytmeoiennniknlaa", sum := "c7b8924c17df9bd58ea08d32c470041c80e18cfdd02b8de73914ce292c274373", func := "gimmal/gimmallaw02.SumsApart", spec := "sumsApart", unfollowed := true, recurses := true, apart := false, narrowed := true }
def SumsApartUptoSaid : Prop := sumsApartUptoRow.holds Try.pinned (OpenSpec.upto sumsApartSpec)

/-- 'gimmallaw02.SumsMarks', WHERE WHAT IT READS IS OF BULK AT MOST 1048576: true; the input reads as it did. -/
def sumsMarksUptoRow : OpenClaim := { program := "ytmeoiennniknlaa", sum := "c7b8924c17df9bd58ea08d32c470041c80e18cfdd02b8de73914ce292c274373", func := "gimmal/gimmallaw02.SumsMarks", spec := "sumsMarks", unfollowed := true, recurses := true, apart := false, narrowed := true }
def SumsMarksUptoSaid : Prop := sumsMarksUptoRow.holds Try.pinned (OpenSpec.upto sumsMarksSpec)

/-- 'gimmallaw02.SumsTurned', WHERE WHAT IT READS IS OF BULK AT MOST 1048576: true; the input reads as it did. -/
def sumsTurnedUptoRow : OpenClaim := { program := "ytmeoiennniknlaa", sum := "c7b8924c17df9bd58ea08d32c470041c80e18cfdd02b8de73914ce292c274373", func := "gimmal/gimmallaw02.SumsTurned", spec := "sumsTurned", unfollowed := true, recurses := true, apart := false, narrowed := true }
def SumsTurnedUptoSaid : Prop := sumsTurnedUptoRow.holds Try.pinned (OpenSpec.upto sumsTurnedSpec)

/-- 'gimmallaw06.FramesOne', WHERE WHAT IT READS IS OF BULK AT MOST 1048576: true; the input reads as it did. -/
def framesOneUptoRow : OpenClaim := { program := "ytmeoiennniknlaa", sum := "c7b8924c17df9bd58ea08d32c470041c80e18cfdd02b8de73914ce292c274373", func := "gimmal/gimmallaw06.FramesOne", spec := "framesOne", unfollowed := true, recurses := true, apart := false, narrowed := true }
def FramesOneUptoSaid : Prop := framesOneUptoRow.holds Try.pinned (OpenSpec.upto framesOneSpec)

/-- 'gimmallaw06.FramesGet', WHERE WHAT IT READS IS OF BULK AT MOST 1048576: true; the input reads as it did. -/
def framesGetUptoRow : OpenClaim := { program := "ytmeoiennniknlaa", sum := "c7b8924c17df9bd58ea08d32c470041c80e18cfdd02b8de73914ce292c274373", func := "gimmal/gimmallaw06.FramesGet", spec := "framesGet", unfollowed := true, recurses := true, apart := false, narrowed := true }
def FramesGetUptoSaid : Prop := framesGetUptoRow.holds Try.pinned (OpenSpec.upto framesGetSpec)

/-- 'gimmallaw06.FramesStream', WHERE WHAT IT READS IS OF BULK AT MOST 1048576: true; the input reads as it did. -/
def framesStreamUptoRow : OpenClaim := { program := "ytmeoiennniknlaa", sum := "c7b8924c17df9bd58ea08d32c470041c80e18cfdd02b8de73914ce292c274373", func := "gimmal/gimmallaw06.FramesStream", spec := "framesStream", unfollowed := true, recurses := true, apart := false, narrowed := true }
def FramesStreamUptoSaid : Prop := framesStreamUptoRow.holds Try.pinned (OpenSpec.upto framesStreamSpec)

/-- 'gimmallaw06.FramesMore', WHERE WHAT IT READS IS OF BULK AT MOST 1048576: true; the input reads as it did. -/
def framesMoreUptoRow : OpenClaim := { program := "ytmeoiennniknlaa", sum := "c7b8924c17df9bd58ea08d32c470041c80e18cfdd02b8de73914ce292c274373", func := "gimmal/gimmallaw06.FramesMore", spec := "framesMore", unfollowed := true, recurses := true, apart := false, narrowed := true }
def FramesMoreUptoSaid : Prop := framesMoreUptoRow.holds Try.pinned (OpenSpec.upto framesMoreSpec)

/-- 'gimmallaw07.AnchorSectors', WHERE WHAT IT READS IS OF BULK AT MOST 1048576: true; the input reads as it did. -/
def anchorSectorsUptoRow : OpenClaim := { program := "ytmeoiennniknlaa", sum := "c7b8924c17df9bd58ea08d32c470041c80e18cfdd02b8de73914ce292c274373", func := "gimmal/gimmallaw07.AnchorSectors", spec := "anchorSectors", unfollowed := true, recurses := true, apart := false, narrowed := true }
def AnchorSectorsUptoSaid : Prop := anchorSectorsUptoRow.holds Try.pinned (OpenSpec.upto anchorSectorsSpec)

/-- 'gimmallaw07.AnchorFinds', WHERE WHAT IT READS IS OF BULK AT MOST 1048576: true; the input reads as it did. -/
def anchorFindsUptoRow : OpenClaim := { program := "ytmeoiennniknlaa", sum := "c7b8924c17df9bd58ea08d32c470041c80e18cfdd02b8de73914ce292c274373", func := "gimmal/gimmallaw07.AnchorFinds", spec := "anchorFinds", unfollowed := true, recurses := true, apart := false, narrowed := true }
def AnchorFindsUptoSaid : Prop := anchorFindsUptoRow.holds Try.pinned (OpenSpec.upto anchorFindsSpec)

/-- 'gimmallaw07.AnchorGreater', WHERE WHAT IT READS IS OF BULK AT MOST 1048576: true; the input reads as it did. -/
def anchorGreaterUptoRow : OpenClaim := { program := "ytmeoiennniknlaa", sum := "c7b8924c17df9bd58ea08d32c470041c80e18cfdd02b8de73914ce292c274373", func := "gimmal/gimmallaw07.AnchorGreater", spec := "anchorGreater", unfollowed := true, recurses := true, apart := false, narrowed := true }
def AnchorGreaterUptoSaid : Prop := anchorGreaterUptoRow.holds Try.pinned (OpenSpec.upto anchorGreaterSpec)

/-- 'gimmallaw07.AnchorLasts', WHERE WHAT IT READS IS OF BULK AT MOST 1048576: true; the input reads as it did. -/
def anchorLastsUptoRow : OpenClaim := { program := "ytmeoiennniknlaa", sum := "c7b8924c17df9bd58ea08d32c470041c80e18cfdd02b8de73914ce292c274373", func := "gimmal/gimmallaw07.AnchorLasts", spec := "anchorLasts", unfollowed := true, recurses := true, apart := false, narrowed := true }
def AnchorLastsUptoSaid : Prop := anchorLastsUptoRow.holds Try.pinned (OpenSpec.upto anchorLastsSpec)

/-- 'gimmallaw08.LogPlays', WHERE WHAT IT READS IS OF BULK AT MOST 1048576: true; the input reads as it did. -/
def logPlaysUptoRow : OpenClaim := { program := "ytmeoiennniknlaa", sum := "c7b8924c17df9bd58ea08d32c470041c80e18cfdd02b8de73914ce292c274373", func := "gimmal/gimmallaw08.LogPlays", spec := "logPlays", unfollowed := true, recurses := true, apart := false, narrowed := true }
def LogPlaysUptoSaid : Prop := logPlaysUptoRow.holds Try.pinned (OpenSpec.upto logPlaysSpec)

end Rows
end Go.Proofs.Ytmeoiennniknlaa
