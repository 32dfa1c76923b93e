/-
  No cell of these rows narrows 'for every input' (looked for: loops, veiled, ifaces, maps, wideKeys, modest, calm, conditions, laid).
  DERIVED. THE GIVEN ROWS OF THIS SEAT. 14 by the template 'for every input the law returns true; each argument reads behind the call as it read before'; 0 by the template 'total and deterministic' (their statements: YtaocgmkcjemecaaTotals.lean).
  GIVEN WITH THE SEED: the statements are not yours to turn. If you find one false, say at which input.
  Laid BY PROGRAM, IN A SANDBOX (cutbox-rows.mjs): the forced cells as the released guide's own fill.sh prints them over the translation 9270311d98c07d55… (all of the seat's roots in one cut). By AI agents, Wed Nov 11 2026. No macro, syntax, notation, axiom, sorry.
-/
import Derived.Test.YtaocgmkcjemecaaChecked
import GoSem.Claim
import GoSem.ClaimJoined
import GoSem.ClaimMapViews
import Derived.JoinedTies
import Derived.KernelRfl
namespace Go.Proofs.Ytaocgmkcjemecaa
/- THE CELL 'sum', in the pinned program and in every row, IS THE sha256 OF THE DUMP (.gsa) THAT YtaocgmkcjemecaaProg.lean LOADS. Nothing in Lean hashes anything: it is a label: what it is worth is what the hold of that sum in a sandbox is worth. -/
noncomputable def Try.pinned : Pinned := { name := "ytaocgmkcjemecaa", sum := "9270311d98c07d557daa530b135e3cbf72e1bdc027f920d962fe5311e61073f7", checked := Try.checked }
namespace Rows
def none {H : Type} : Left H := { results := [], args := [] }

/-- 'spinnakerlaw22.BoundCounts': WHATEVER THE INPUT: true; the input reads as it did. -/
def boundCountsSpec : ChangeSpec := { name := "boundCounts", fn := fun _ => fun
  | [d1, d2] => { results := [.lit (.bool true)], args := [d1, d2] }
  | _ => none }
def boundCountsRow : OpenClaim := { program := "ytaocgmkcjemecaa", sum := "9270311d98c07d557daa530b135e3cbf72e1bdc027f920d962fe5311e61073f7", func := "spinnaker/spinnakerlaw22.BoundCounts", spec := "boundCounts", unfollowed := true, recurses := true, apart := false }
def BoundCountsSaid : Prop := boundCountsRow.holds Try.pinned (OpenSpec.ofChange boundCountsSpec)

/-- ITS FALSE NEIGHBOUR: 'it returns false'. Refute it at one input. -/
def boundCountsWrong : ChangeSpec := { name := "boundCounts", fn := fun _ => fun
  | [d1, d2] => { results := [.lit (.bool false)], args := [d1, d2] }
  | _ => none }
def BoundCountsWrongFalsely : Prop := boundCountsRow.holds Try.pinned (OpenSpec.ofChange boundCountsWrong)

/-- 'spinnakerlaw22.BoundPowers': WHATEVER THE INPUT: true; the input reads as it did. -/
def boundPowersSpec : ChangeSpec := { name := "boundPowers", fn := fun _ => fun
  | [d] => { results := [.lit (.bool true)], args := [d] }
  | _ => none }
def boundPowersRow : OpenClaim := { program := "ytaocgmkcjemecaa", sum := "9270311d98c07d557daa530b135e3cbf72e1bdc027f920d962fe5311e61073f7", func := "spinnaker/spinnakerlaw22.BoundPowers", spec := "boundPowers", unfollowed := true, recurses := true, apart := false }
def BoundPowersSaid : Prop := boundPowersRow.holds Try.pinned (OpenSpec.ofChange boundPowersSpec)

/-- ITS FALSE NEIGHBOUR: 'it returns false'. Refute it at one input. -/
def boundPowersWrong : ChangeSpec := { name := "boundPowers", fn := fun _ => fun
  | [d] => { results := [.lit (.bool false)], args := [d] }
  | _ => none }
def BoundPowersWrongFalsely : Prop := boundPowersRow.holds Try.pinned (OpenSpec.ofChange boundPowersWrong)

/-- 'spinnakerlaw22.BoundBuffers': WHATEVER THE INPUT: true; the input reads as it did. -/
def boundBuffersSpec : ChangeSpec := { name := "boundBuffers", fn := fun _ => fun
  | [d1, d2, d3] => { results := [.lit (.bool true)], args := [d1, d2, d3] }
  | _ => none }
def boundBuffersRow : OpenClaim := { program := "ytaocgmkcjemecaa", sum := "9270311d98c07d557daa530b135e3cbf72e1bdc027f920d962fe5311e61073f7", func := "spinnaker/spinnakerlaw22.BoundBuffers", spec := "boundBuffers", unfollowed := true, recurses := true, apart := false }
def BoundBuffersSaid : Prop := boundBuffersRow.holds Try.pinned (OpenSpec.ofChange boundBuffersSpec)

/-- ITS FALSE NEIGHBOUR: 'it returns false'. Refute it at one input. -/
def boundBuffersWrong : ChangeSpec := { name := "boundBuffers", fn := fun _ => fun
  | [d1, d2, d3] => { results := [.lit (.bool false)], args := [d1, d2, d3] }
  | _ => none }
def BoundBuffersWrongFalsely : Prop := boundBuffersRow.holds Try.pinned (OpenSpec.ofChange boundBuffersWrong)

/-- 'spinnakerlaw22.BoundEnough': WHATEVER THE INPUT: true; the input reads as it did. -/
def boundEnoughSpec : ChangeSpec := { name := "boundEnough", fn := fun _ => fun
  | [d] => { results := [.lit (.bool true)], args := [d] }
  | _ => none }
def boundEnoughRow : OpenClaim := { program := "ytaocgmkcjemecaa", sum := "9270311d98c07d557daa530b135e3cbf72e1bdc027f920d962fe5311e61073f7", func := "spinnaker/spinnakerlaw22.BoundEnough", spec := "boundEnough", unfollowed := true, recurses := true, apart := false }
def BoundEnoughSaid : Prop := boundEnoughRow.holds Try.pinned (OpenSpec.ofChange boundEnoughSpec)

/-- ITS FALSE NEIGHBOUR: 'it returns false'. Refute it at one input. -/
def boundEnoughWrong : ChangeSpec := { name := "boundEnough", fn := fun _ => fun
  | [d] => { results := [.lit (.bool false)], args := [d] }
  | _ => none }
def BoundEnoughWrongFalsely : Prop := boundEnoughRow.holds Try.pinned (OpenSpec.ofChange boundEnoughWrong)

/-- 'spinnakerlaw22.BoundMore': WHATEVER THE INPUT: true; the input reads as it did. -/
def boundMoreSpec : ChangeSpec := { name := "boundMore", fn := fun _ => fun
  | [d1, d2] => { results := [.lit (.bool true)], args := [d1, d2] }
  | _ => none }
def boundMoreRow : OpenClaim := { program := "ytaocgmkcjemecaa", sum := "9270311d98c07d557daa530b135e3cbf72e1bdc027f920d962fe5311e61073f7", func := "spinnaker/spinnakerlaw22.BoundMore", spec := "boundMore", unfollowed := true, recurses := true, apart := false }
def BoundMoreSaid : Prop := boundMoreRow.holds Try.pinned (OpenSpec.ofChange boundMoreSpec)

/-- ITS FALSE NEIGHBOUR: 'it returns false'. Refute it at one input. -/
def boundMoreWrong : ChangeSpec := { name := "boundMore", fn := fun _ => fun
  | [d1, d2] => { results := [.lit (.bool false)], args := [d1, d2] }
  | _ => none }
def BoundMoreWrongFalsely : Prop := boundMoreRow.holds Try.pinned (OpenSpec.ofChange boundMoreWrong)

/-- 'spinnakerlaw09.ConfStarts': WHATEVER THE INPUT: true; the input reads as it did. -/
def confStartsSpec : ChangeSpec := { name := "confStarts", fn := fun _ => fun
  | [d] => { results := [.lit (.bool true)], args := [d] }
  | _ => none }
def confStartsRow : OpenClaim := { program := "ytaocgmkcjemecaa", sum := "9270311d98c07d557daa530b135e3cbf72e1bdc027f920d962fe5311e61073f7", func := "spinnaker/spinnakerlaw09.ConfStarts", spec := "confStarts", unfollowed := true, recurses := true, apart := false }
def ConfStartsSaid : Prop := confStartsRow.holds Try.pinned (OpenSpec.ofChange confStartsSpec)

/-- ITS FALSE NEIGHBOUR: 'it returns false'. Refute it at one input. -/
def confStartsWrong : ChangeSpec := { name := "confStarts", fn := fun _ => fun
  | [d] => { results := [.lit (.bool false)], args := [d] }
  | _ => none }
def ConfStartsWrongFalsely : Prop := confStartsRow.holds Try.pinned (OpenSpec.ofChange confStartsWrong)

/-- 'spinnakerlaw09.ConfTells': WHATEVER THE INPUT: true; the input reads as it did. -/
def confTellsSpec : ChangeSpec := { name := "confTells", fn := fun _ => fun
  | [d1, d2, d3] => { results := [.lit (.bool true)], args := [d1, d2, d3] }
  | _ => none }
def confTellsRow : OpenClaim := { program := "ytaocgmkcjemecaa", sum := "9270311d98c07d557daa530b135e3cbf72e1bdc027f920d962fe5311e61073f7", func := "spinnaker/spinnakerlaw09.ConfTells", spec := "confTells", unfollowed := true, recurses := true, apart := false }
def ConfTellsSaid : Prop := confTellsRow.holds Try.pinned (OpenSpec.ofChange confTellsSpec)

/-- ITS FALSE NEIGHBOUR: 'it returns false'. Refute it at one input. -/
def confTellsWrong : ChangeSpec := { name := "confTells", fn := fun _ => fun
  | [d1, d2, d3] => { results := [.lit (.bool false)], args := [d1, d2, d3] }
  | _ => none }
def ConfTellsWrongFalsely : Prop := confTellsRow.holds Try.pinned (OpenSpec.ofChange confTellsWrong)

/-- 'spinnakerlaw09.ConfSame': WHATEVER THE INPUT: true; the input reads as it did. -/
def confSameSpec : ChangeSpec := { name := "confSame", fn := fun _ => fun
  | [d1, d2] => { results := [.lit (.bool true)], args := [d1, d2] }
  | _ => none }
def confSameRow : OpenClaim := { program := "ytaocgmkcjemecaa", sum := "9270311d98c07d557daa530b135e3cbf72e1bdc027f920d962fe5311e61073f7", func := "spinnaker/spinnakerlaw09.ConfSame", spec := "confSame", unfollowed := true, recurses := true, apart := false }
def ConfSameSaid : Prop := confSameRow.holds Try.pinned (OpenSpec.ofChange confSameSpec)

/-- ITS FALSE NEIGHBOUR: 'it returns false'. Refute it at one input. -/
def confSameWrong : ChangeSpec := { name := "confSame", fn := fun _ => fun
  | [d1, d2] => { results := [.lit (.bool false)], args := [d1, d2] }
  | _ => none }
def ConfSameWrongFalsely : Prop := confSameRow.holds Try.pinned (OpenSpec.ofChange confSameWrong)

/-- 'spinnakerlaw09.ConfBegins': WHATEVER THE INPUT: true; the input reads as it did. -/
def confBeginsSpec : ChangeSpec := { name := "confBegins", fn := fun _ => fun
  | [d1, d2, d3] => { results := [.lit (.bool true)], args := [d1, d2, d3] }
  | _ => none }
def confBeginsRow : OpenClaim := { program := "ytaocgmkcjemecaa", sum := "9270311d98c07d557daa530b135e3cbf72e1bdc027f920d962fe5311e61073f7", func := "spinnaker/spinnakerlaw09.ConfBegins", spec := "confBegins", unfollowed := true, recurses := true, apart := false }
def ConfBeginsSaid : Prop := confBeginsRow.holds Try.pinned (OpenSpec.ofChange confBeginsSpec)

/-- ITS FALSE NEIGHBOUR: 'it returns false'. Refute it at one input. -/
def confBeginsWrong : ChangeSpec := { name := "confBegins", fn := fun _ => fun
  | [d1, d2, d3] => { results := [.lit (.bool false)], args := [d1, d2, d3] }
  | _ => none }
def ConfBeginsWrongFalsely : Prop := confBeginsRow.holds Try.pinned (OpenSpec.ofChange confBeginsWrong)

/-- 'spinnakerlaw12.PackEncodes': WHATEVER THE INPUT: true; the input reads as it did. -/
def packEncodesSpec : ChangeSpec := { name := "packEncodes", fn := fun _ => fun
  | [d] => { results := [.lit (.bool true)], args := [d] }
  | _ => none }
def packEncodesRow : OpenClaim := { program := "ytaocgmkcjemecaa", sum := "9270311d98c07d557daa530b135e3cbf72e1bdc027f920d962fe5311e61073f7", func := "spinnaker/spinnakerlaw12.PackEncodes", spec := "packEncodes", unfollowed := true, recurses := true, apart := false }
def PackEncodesSaid : Prop := packEncodesRow.holds Try.pinned (OpenSpec.ofChange packEncodesSpec)

/-- ITS FALSE NEIGHBOUR: 'it returns false'. Refute it at one input. -/
def packEncodesWrong : ChangeSpec := { name := "packEncodes", fn := fun _ => fun
  | [d] => { results := [.lit (.bool false)], args := [d] }
  | _ => none }
def PackEncodesWrongFalsely : Prop := packEncodesRow.holds Try.pinned (OpenSpec.ofChange packEncodesWrong)

/-- 'spinnakerlaw12.PackDecodes': WHATEVER THE INPUT: true; the input reads as it did. -/
def packDecodesSpec : ChangeSpec := { name := "packDecodes", fn := fun _ => fun
  | [d1, d2, d3] => { results := [.lit (.bool true)], args := [d1, d2, d3] }
  | _ => none }
def packDecodesRow : OpenClaim := { program := "ytaocgmkcjemecaa", sum := "9270311d98c07d557daa530b135e3cbf72e1bdc027f920d962fe5311e61073f7", func := "spinnaker/spinnakerlaw12.PackDecodes", spec := "packDecodes", unfollowed := true, recurses := true, apart := false }
def PackDecodesSaid : Prop := packDecodesRow.holds Try.pinned (OpenSpec.ofChange packDecodesSpec)

/-- ITS FALSE NEIGHBOUR: 'it returns false'. Refute it at one input. -/
def packDecodesWrong : ChangeSpec := { name := "packDecodes", fn := fun _ => fun
  | [d1, d2, d3] => { results := [.lit (.bool false)], args := [d1, d2, d3] }
  | _ => none }
def PackDecodesWrongFalsely : Prop := packDecodesRow.holds Try.pinned (OpenSpec.ofChange packDecodesWrong)

/-- 'spinnakerlaw12.PackBack': WHATEVER THE INPUT: true; the input reads as it did. -/
def packBackSpec : ChangeSpec := { name := "packBack", fn := fun _ => fun
  | [d] => { results := [.lit (.bool true)], args := [d] }
  | _ => none }
def packBackRow : OpenClaim := { program := "ytaocgmkcjemecaa", sum := "9270311d98c07d557daa530b135e3cbf72e1bdc027f920d962fe5311e61073f7", func := "spinnaker/spinnakerlaw12.PackBack", spec := "packBack", unfollowed := true, recurses := true, apart := false }
def PackBackSaid : Prop := packBackRow.holds Try.pinned (OpenSpec.ofChange packBackSpec)

/-- ITS FALSE NEIGHBOUR: 'it returns false'. Refute it at one input. -/
def packBackWrong : ChangeSpec := { name := "packBack", fn := fun _ => fun
  | [d] => { results := [.lit (.bool false)], args := [d] }
  | _ => none }
def PackBackWrongFalsely : Prop := packBackRow.holds Try.pinned (OpenSpec.ofChange packBackWrong)

/-- 'spinnakerlaw12.PackOnce': WHATEVER THE INPUT: true; the input reads as it did. -/
def packOnceSpec : ChangeSpec := { name := "packOnce", fn := fun _ => fun
  | [d1, d2, d3] => { results := [.lit (.bool true)], args := [d1, d2, d3] }
  | _ => none }
def packOnceRow : OpenClaim := { program := "ytaocgmkcjemecaa", sum := "9270311d98c07d557daa530b135e3cbf72e1bdc027f920d962fe5311e61073f7", func := "spinnaker/spinnakerlaw12.PackOnce", spec := "packOnce", unfollowed := true, recurses := true, apart := false }
def PackOnceSaid : Prop := packOnceRow.holds Try.pinned (OpenSpec.ofChange packOnceSpec)

/-- ITS FALSE NEIGHBOUR: 'it returns false'. Refute it at one input. -/
def packOnceWrong : ChangeSpec := { name := "packOnce", fn := fun _ => fun
  | [d1, d2, d3] => { results := [.lit (.bool false)], args := [d1, d2, d3] }
  | _ => none }
def PackOnceWrongFalsely : Prop := packOnceRow.holds Try.pinned (OpenSpec.ofChange packOnceWrong)

/-- 'spinnakerlaw12.PackSizes': WHATEVER THE INPUT: true; the input reads as it did. -/
def packSizesSpec : ChangeSpec := { name := "packSizes", fn := fun _ => fun
  | [d] => { results := [.lit (.bool true)], args := [d] }
  | _ => none }
def packSizesRow : OpenClaim := { program := "ytaocgmkcjemecaa", sum := "9270311d98c07d557daa530b135e3cbf72e1bdc027f920d962fe5311e61073f7", func := "spinnaker/spinnakerlaw12.PackSizes", spec := "packSizes", unfollowed := true, recurses := true, apart := false }
def PackSizesSaid : Prop := packSizesRow.holds Try.pinned (OpenSpec.ofChange packSizesSpec)

/-- ITS FALSE NEIGHBOUR: 'it returns false'. Refute it at one input. -/
def packSizesWrong : ChangeSpec := { name := "packSizes", fn := fun _ => fun
  | [d] => { results := [.lit (.bool false)], args := [d] }
  | _ => none }
def PackSizesWrongFalsely : Prop := packSizesRow.holds Try.pinned (OpenSpec.ofChange packSizesWrong)

/- THE SECOND FORM. 'bulk': how many values and letters a reading holds, each counted each time it is reached (what is shared counts as often as it is met; a slice's spare places count too). A statement '..UptoSaid' is the law's where the arguments, and the package variables that the reading takes, are together of bulk at most 1048576: NARROWER than '..Said'. Prove '..Said' where nothing that the law and all that it calls make is longer than what came in: it says more and counts as full. Else prove '..UptoSaid'. A law counts once. -/
mutual
def uptoBulk {H : Type} : DataW H → Nat
  | .lit (.string bytes) => bytes.length + 1
  | .lit _ => 1
  | .nil => 1
  | .ptr d => uptoBulk d + 1
  | .slice elems spare => uptoBulkAll elems + uptoBulkAll spare + 1
  | .agg parts => uptoBulkAll parts + 1
  | .iface _ d => uptoBulk d + 1
  | .map entries => uptoBulkEntries entries + 1
  | .held _ => 1
def uptoBulkAll {H : Type} : List (DataW H) → Nat
  | [] => 0
  | d :: r => uptoBulk d + uptoBulkAll r
def uptoBulkEntries {H : Type} : List (Lit × DataW H) → Nat
  | [] => 0
  | x :: r => uptoBulkEntry x + uptoBulkEntries r
def uptoBulkEntry {H : Type} : Lit × DataW H → Nat
  | (.string bytes, d) => bytes.length + uptoBulk d + 1
  | (_, d) => uptoBulk d + 1
 end
def uptoSmall : (H : Type) → List (DataW H) → Bool := fun _ ds => decide (uptoBulkAll ds ≤ 1048576)
def OpenSpec.upto (s : _root_.Go.ChangeSpec) : _root_.Go.OpenSpec := { _root_.Go.OpenSpec.ofChange s with cond := some uptoSmall }

/-- 'spinnakerlaw22.BoundCounts', WHERE WHAT IT READS IS OF BULK AT MOST 1048576: true; the input reads as it did. -/
def boundCountsUptoRow : OpenClaim := { program := "ytaocgmkcjemecaa", sum := "9270311d98c07d557daa530b135e3cbf72e1bdc027f920d962fe5311e61073f7", func := "spinnaker/spinnakerlaw22.BoundCounts", spec := "boundCounts", unfollowed := true, recurses := true, apart := false, narrowed := true }
def BoundCountsUptoSaid : Prop := boundCountsUptoRow.holds Try.pinned (OpenSpec.upto boundCountsSpec)

/-- 'spinnakerlaw22.BoundPowers', WHERE WHAT IT READS IS OF BULK AT MOST 1048576: true; the input reads as it did. -/
def boundPowersUptoRow : OpenClaim := { program := "ytaocgmkcjemecaa", sum := "9270311d98c07d557daa530b135e3cbf72e1bdc027f920d962fe5311e61073f7", func := "spinnaker/spinnakerlaw22.BoundPowers", spec := "boundPowers", unfollowed := true, recurses := true, apart := false, narrowed := true }
def BoundPowersUptoSaid : Prop := boundPowersUptoRow.holds Try.pinned (OpenSpec.upto boundPowersSpec)

/-- 'spinnakerlaw22.BoundBuffers', WHERE WHAT IT READS IS OF BULK AT MOST 1048576: true; the input reads as it did. -/
def boundBuffersUptoRow : OpenClaim := { program := "ytaocgmkcjemecaa", sum := "9270311d98c07d557daa530b135e3cbf72e1bdc027f920d962fe5311e61073f7", func := "spinnaker/spinnakerlaw22.BoundBuffers", spec := "boundBuffers", unfollowed := true, recurses := true, apart := false, narrowed := true }
def BoundBuffersUptoSaid : Prop := boundBuffersUptoRow.holds Try.pinned (OpenSpec.upto boundBuffersSpec)

/-- 'spinnakerlaw22.BoundEnough', WHERE WHAT IT READS IS OF BULK AT MOST 1048576: true; the input reads as it did. -/
def boundEnoughUptoRow : OpenClaim := { program := "ytaocgmkcjemecaa", sum := "9270311d98c07d557daa530b135e3cbf72e1bdc027f920d962fe5311e61073f7", func := "spinnaker/spinnakerlaw22.BoundEnough", spec := "boundEnough", unfollowed := true, recurses := true, apart := false, narrowed := true }
def BoundEnoughUptoSaid : Prop := boundEnoughUptoRow.holds Try.pinned (OpenSpec.upto boundEnoughSpec)

/-- 'spinnakerlaw22.BoundMore', WHERE WHAT IT READS IS OF BULK AT MOST 1048576: true; the input reads as it did. -/
def boundMoreUptoRow : OpenClaim := { program := "ytaocgmkcjemecaa", sum := "9270311d98c07d557daa530b135e3cbf72e1bdc027f920d962fe5311e61073f7", func := "spinnaker/spinnakerlaw22.BoundMore", spec := "boundMore", unfollowed := true, recurses := true, apart := false, narrowed := true }
def BoundMoreUptoSaid : Prop := boundMoreUptoRow.holds Try.pinned (OpenSpec.upto boundMoreSpec)

/-- 'spinnakerlaw09.ConfStarts', WHERE WHAT IT READS IS OF BULK AT MOST 1048576: true; the input reads as it did. -/
def confStartsUptoRow : OpenClaim := { program := "ytaocgmkcjemecaa", sum := "9270311d98c07d557daa530b135e3cbf72e1bdc027f920d962fe5311e61073f7", func := "spinnaker/spinnakerlaw09.ConfStarts", spec := "confStarts", unfollowed := true, recurses := true, apart := false, narrowed := true }
def ConfStartsUptoSaid : Prop := confStartsUptoRow.holds Try.pinned (OpenSpec.upto confStartsSpec)

/-- 'spinnakerlaw09.ConfTells', WHERE WHAT IT READS IS OF BULK AT MOST 1048576: true; the input reads as it did. -/
def confTellsUptoRow : OpenClaim := { program := "ytaocgmkcjemecaa", sum := "9270311d98c07d557daa530b135e3cbf72e1bdc027f920d962fe5311e61073f7", func := "spinnaker/spinnakerlaw09.ConfTells", spec := "confTells", unfollowed := true, recurses := true, apart := false, narrowed := true }
def ConfTellsUptoSaid : Prop := confTellsUptoRow.holds Try.pinned (OpenSpec.upto confTellsSpec)

/-- 'spinnakerlaw09.ConfSame', WHERE WHAT IT READS IS OF BULK AT MOST 1048576: true; the input reads as it did. -/
def confSameUptoRow : OpenClaim := { program := "ytaocgmkcjemecaa", sum := "9270311d98c07d557daa530b135e3cbf72e1bdc027f920d962fe5311e61073f7", func := "spinnaker/spinnakerlaw09.ConfSame", spec := "confSame", unfollowed := true, recurses := true, apart := false, narrowed := true }
def ConfSameUptoSaid : Prop := confSameUptoRow.holds Try.pinned (OpenSpec.upto confSameSpec)

/-- 'spinnakerlaw09.ConfBegins', WHERE WHAT IT READS IS OF BULK AT MOST 1048576: true; the input reads as it did. -/
def confBeginsUptoRow : OpenClaim := { program := "ytaocgmkcjemecaa", sum := "9270311d98c07d557daa530b135e3cbf72e1bdc027f920d962fe5311e61073f7", func := "spinnaker/spinnakerlaw09.ConfBegins", spec := "confBegins", unfollowed := true, recurses := true, apart := false, narrowed := true }
def ConfBeginsUptoSaid : Prop := confBeginsUptoRow.holds Try.pinned (OpenSpec.upto confBeginsSpec)

/-- 'spinnakerlaw12.PackEncodes', WHERE WHAT IT READS IS OF BULK AT MOST 1048576: true; the input reads as it did. -/
def packEncodesUptoRow : OpenClaim := { program := "ytaocgmkcjemecaa", sum := "9270311d98c07d557daa530b135e3cbf72e1bdc027f920d962fe5311e61073f7", func := "spinnaker/spinnakerlaw12.PackEncodes", spec := "packEncodes", unfollowed := true, recurses := true, apart := false, narrowed := true }
def PackEncodesUptoSaid : Prop := packEncodesUptoRow.holds Try.pinned (OpenSpec.upto packEncodesSpec)

/-- 'spinnakerlaw12.PackDecodes', WHERE WHAT IT READS IS OF BULK AT MOST 1048576: true; the input reads as it did. -/
def packDecodesUptoRow : OpenClaim := { program := "ytaocgmkcjemecaa", sum := "9270311d98c07d557daa530b135e3cbf72e1bdc027f920d962fe5311e61073f7", func := "spinnaker/spinnakerlaw12.PackDecodes", spec := "packDecodes", unfollowed := true, recurses := true, apart := false, narrowed := true }
def PackDecodesUptoSaid : Prop := packDecodesUptoRow.holds Try.pinned (OpenSpec.upto packDecodesSpec)

/-- 'spinnakerlaw12.PackBack', WHERE WHAT IT READS IS OF BULK AT MOST 1048576: true; the input reads as it did. -/
def packBackUptoRow : OpenClaim := { program := "ytaocgmkcjemecaa", sum := "9270311d98c07d557daa530b135e3cbf72e1bdc027f920d962fe5311e61073f7", func := "spinnaker/spinnakerlaw12.PackBack", spec := "packBack", unfollowed := true, recurses := true, apart := false, narrowed := true }
def PackBackUptoSaid : Prop := packBackUptoRow.holds Try.pinned (OpenSpec.upto packBackSpec)

/-- 'spinnakerlaw12.PackOnce', WHERE WHAT IT READS IS OF BULK AT MOST 1048576: true; the input reads as it did. -/
def packOnceUptoRow : OpenClaim := { program := "ytaocgmkcjemecaa", sum := "9270311d98c07d557daa530b135e3cbf72e1bdc027f920d962fe5311e61073f7", func := "spinnaker/spinnakerlaw12.PackOnce", spec := "packOnce", unfollowed := true, recurses := true, apart := false, narrowed := true }
def PackOnceUptoSaid : Prop := packOnceUptoRow.holds Try.pinned (OpenSpec.upto packOnceSpec)

/-- 'spinnakerlaw12.PackSizes', WHERE WHAT IT READS IS OF BULK AT MOST 1048576: true; the input reads as it did. -/
def packSizesUptoRow : OpenClaim := { program := "ytaocgmkcjemecaa", sum := "9270311d98c07d557daa530b135e3cbf72e1bdc027f920d962fe5311e61073f7", func := "spinnaker/spinnakerlaw12.PackSizes", spec := "packSizes", unfollowed := true, recurses := true, apart := false, narrowed := true }
def PackSizesUptoSaid : Prop := packSizesUptoRow.holds Try.pinned (OpenSpec.upto packSizesSpec)

end Rows
end Go.Proofs.Ytaocgmkcjemecaa
