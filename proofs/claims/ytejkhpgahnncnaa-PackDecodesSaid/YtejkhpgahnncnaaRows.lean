/-
  No cell of these rows narrows 'for every input' (looked for: loops, veiled, ifaces, maps, wideKeys, modest, calm, conditions, laid).
  DERIVED. THE GIVEN ROWS OF THIS SEAT. 7 by the template 'for every input the law returns true; each argument reads behind the call as it read before'; 0 by the template 'total and deterministic' (their statements: YtejkhpgahnncnaaTotals.lean).
  GIVEN WITH THE SEED: the statements are not yours to turn. If you find one false, say at which input.
  Laid BY PROGRAM, IN A SANDBOX (cutbox-rows.mjs): the forced cells as the released guide's own fill.sh prints them over the translation e68c9204757f28eb… (all of the seat's roots in one cut). By AI agents, Wed Nov 11 2026. No macro, syntax, notation, axiom, sorry.
-/
import Derived.Test.YtejkhpgahnncnaaChecked
import GoSem.Claim
import GoSem.ClaimJoined
import GoSem.ClaimMapViews
import Derived.JoinedTies
import Derived.KernelRfl
namespace Go.Proofs.Ytejkhpgahnncnaa
/- THE CELL 'sum', in the pinned program and in every row, IS THE sha256 OF THE DUMP (.gsa) THAT YtejkhpgahnncnaaProg.lean LOADS. Nothing in Lean hashes anything: it is a label: what it is worth is what the hold of that sum in a sandbox is worth. -/
noncomputable def Try.pinned : Pinned := { name := "ytejkhpgahnncnaa", sum := "e68c9204757f28ebd6561e31c6f7afd4334baa926b0d2a579951747543236d81", checked := Try.checked }
namespace Rows
def none {H : Type} : Left H := { results := [], args := [] }

/-- 'spinnakerlaw09.ConfStarts': WHATEVER THE INPUT: true; the input reads as it did. -/
def confStartsSpec : ChangeSpec := { name := "confStarts", fn := fun _ => fun
  | [d] => { results := [.lit (.bool true)], args := [d] }
  | _ => none }
def confStartsRow : OpenClaim := { program := "ytejkhpgahnncnaa", sum := "e68c9204757f28ebd6561e31c6f7afd4334baa926b0d2a579951747543236d81", func := "spinnaker/spinnakerlaw09.ConfStarts", spec := "confStarts", unfollowed := true, recurses := true, apart := false }
def ConfStartsSaid : Prop := confStartsRow.holds Try.pinned (OpenSpec.ofChange confStartsSpec)

/-- ITS FALSE NEIGHBOUR: 'it returns false'. Refute it at one input. -/
def confStartsWrong : ChangeSpec := { name := "confStarts", fn := fun _ => fun
  | [d] => { results := [.lit (.bool false)], args := [d] }
  | _ => none }
def ConfStartsWrongFalsely : Prop := confStartsRow.holds Try.pinned (OpenSpec.ofChange confStartsWrong)

/-- 'spinnakerlaw09.ConfSame': WHATEVER THE INPUT: true; the input reads as it did. -/
def confSameSpec : ChangeSpec := { name := "confSame", fn := fun _ => fun
  | [d1, d2] => { results := [.lit (.bool true)], args := [d1, d2] }
  | _ => none }
def confSameRow : OpenClaim := { program := "ytejkhpgahnncnaa", sum := "e68c9204757f28ebd6561e31c6f7afd4334baa926b0d2a579951747543236d81", func := "spinnaker/spinnakerlaw09.ConfSame", spec := "confSame", unfollowed := true, recurses := true, apart := false }
def ConfSameSaid : Prop := confSameRow.holds Try.pinned (OpenSpec.ofChange confSameSpec)

/-- ITS FALSE NEIGHBOUR: 'it returns false'. Refute it at one input. -/
def confSameWrong : ChangeSpec := { name := "confSame", fn := fun _ => fun
  | [d1, d2] => { results := [.lit (.bool false)], args := [d1, d2] }
  | _ => none }
def ConfSameWrongFalsely : Prop := confSameRow.holds Try.pinned (OpenSpec.ofChange confSameWrong)

/-- 'spinnakerlaw12.PackEncodes': WHATEVER THE INPUT: true; the input reads as it did. -/
def packEncodesSpec : ChangeSpec := { name := "packEncodes", fn := fun _ => fun
  | [d] => { results := [.lit (.bool true)], args := [d] }
  | _ => none }
def packEncodesRow : OpenClaim := { program := "ytejkhpgahnncnaa", sum := "e68c9204757f28ebd6561e31c6f7afd4334baa926b0d2a579951747543236d81", func := "spinnaker/spinnakerlaw12.PackEncodes", spec := "packEncodes", unfollowed := true, recurses := true, apart := false }
def PackEncodesSaid : Prop := packEncodesRow.holds Try.pinned (OpenSpec.ofChange packEncodesSpec)

/-- ITS FALSE NEIGHBOUR: 'it returns false'. Refute it at one input. -/
def packEncodesWrong : ChangeSpec := { name := "packEncodes", fn := fun _ => fun
  | [d] => { results := [.lit (.bool false)], args := [d] }
  | _ => none }
def PackEncodesWrongFalsely : Prop := packEncodesRow.holds Try.pinned (OpenSpec.ofChange packEncodesWrong)

/-- 'spinnakerlaw12.PackDecodes': WHATEVER THE INPUT: true; the input reads as it did. -/
def packDecodesSpec : ChangeSpec := { name := "packDecodes", fn := fun _ => fun
  | [d1, d2, d3] => { results := [.lit (.bool true)], args := [d1, d2, d3] }
  | _ => none }
def packDecodesRow : OpenClaim := { program := "ytejkhpgahnncnaa", sum := "e68c9204757f28ebd6561e31c6f7afd4334baa926b0d2a579951747543236d81", func := "spinnaker/spinnakerlaw12.PackDecodes", spec := "packDecodes", unfollowed := true, recurses := true, apart := false }
def PackDecodesSaid : Prop := packDecodesRow.holds Try.pinned (OpenSpec.ofChange packDecodesSpec)

/-- ITS FALSE NEIGHBOUR: 'it returns false'. Refute it at one input. -/
def packDecodesWrong : ChangeSpec := { name := "packDecodes", fn := fun _ => fun
  | [d1, d2, d3] => { results := [.lit (.bool false)], args := [d1, d2, d3] }
  | _ => none }
def PackDecodesWrongFalsely : Prop := packDecodesRow.holds Try.pinned (OpenSpec.ofChange packDecodesWrong)

/-- 'spinnakerlaw12.PackBack': WHATEVER THE INPUT: true; the input reads as it did. -/
def packBackSpec : ChangeSpec := { name := "packBack", fn := fun _ => fun
  | [d] => { results := [.lit (.bool true)], args := [d] }
  | _ => none }
def packBackRow : OpenClaim := { program := "ytejkhpgahnncnaa", sum := "e68c9204757f28ebd6561e31c6f7afd4334baa926b0d2a579951747543236d81", func := "spinnaker/spinnakerlaw12.PackBack", spec := "packBack", unfollowed := true, recurses := true, apart := false }
def PackBackSaid : Prop := packBackRow.holds Try.pinned (OpenSpec.ofChange packBackSpec)

/-- ITS FALSE NEIGHBOUR: 'it returns false'. Refute it at one input. -/
def packBackWrong : ChangeSpec := { name := "packBack", fn := fun _ => fun
  | [d] => { results := [.lit (.bool false)], args := [d] }
  | _ => none }
def PackBackWrongFalsely : Prop := packBackRow.holds Try.pinned (OpenSpec.ofChange packBackWrong)

/-- 'spinnakerlaw12.PackOnce': WHATEVER THE INPUT: true; the input reads as it did. -/
def packOnceSpec : ChangeSpec := { name := "packOnce", fn := fun _ => fun
  | [d1, d2, d3] => { results := [.lit (.bool true)], args := [d1, d2, d3] }
  | _ => none }
def packOnceRow : OpenClaim := { program := "ytejkhpgahnncnaa", sum := "e68c9204757f28ebd6561e31c6f7afd4334baa926b0d2a579951747543236d81", func := "spinnaker/spinnakerlaw12.PackOnce", spec := "packOnce", unfollowed := true, recurses := true, apart := false }
def PackOnceSaid : Prop := packOnceRow.holds Try.pinned (OpenSpec.ofChange packOnceSpec)

/-- ITS FALSE NEIGHBOUR: 'it returns false'. Refute it at one input. -/
def packOnceWrong : ChangeSpec := { name := "packOnce", fn := fun _ => fun
  | [d1, d2, d3] => { results := [.lit (.bool false)], args := [d1, d2, d3] }
  | _ => none }
def PackOnceWrongFalsely : Prop := packOnceRow.holds Try.pinned (OpenSpec.ofChange packOnceWrong)

/-- 'spinnakerlaw12.PackSizes': WHATEVER THE INPUT: true; the input reads as it did. -/
def packSizesSpec : ChangeSpec := { name := "packSizes", fn := fun _ => fun
  | [d] => { results := [.lit (.bool true)], args := [d] }
  | _ => none }
def packSizesRow : OpenClaim := { program := "ytejkhpgahnncnaa", sum := "e68c9204757f28ebd6561e31c6f7afd4334baa926b0d2a579951747543236d81", func := "spinnaker/spinnakerlaw12.PackSizes", spec := "packSizes", unfollowed := true, recurses := true, apart := false }
def PackSizesSaid : Prop := packSizesRow.holds Try.pinned (OpenSpec.ofChange packSizesSpec)

/-- ITS FALSE NEIGHBOUR: 'it returns false'. Refute it at one input. -/
def packSizesWrong : ChangeSpec := { name := "packSizes", fn := fun _ => fun
  | [d] => { results := [.lit (.bool false)], args := [d] }
  | _ => none }
def PackSizesWrongFalsely : Prop := packSizesRow.holds Try.pinned (OpenSpec.ofChange packSizesWrong)

/- THE SECOND FORM. 'bulk': how many values and letters a reading holds, each counted each time it is reached (what is shared counts as often as it is met; a slice's spare places count too). A statement '..UptoSaid' is the law's where the arguments, and the package variables that the reading takes, are together of bulk at most 1048576: NARROWER than '..Said'. Prove '..Said' where nothing that the law and all that it calls make is longer than what came in: it says more and counts as full. Else prove '..UptoSaid'. A law counts once. -/
mutual
def uptoBulk {H : Type} : DataW H → Nat
  | .lit (.string bytes) => bytes.length + 1
  | .lit _ => 1
  | .nil => 1
  | .ptr d => uptoBulk d + 1
  | .slice elems spare => uptoBulkAll elems + uptoBulkAll spare + 1
  | .agg parts => uptoBulkAll parts + 1
  | .iface _ d => uptoBulk d + 1
  | .map entries => uptoBulkEntries entries + 1
  | .held _ => 1
def uptoBulkAll {H : Type} : List (DataW H) → Nat
  | [] => 0
  | d :: r => uptoBulk d + uptoBulkAll r
def uptoBulkEntries {H : Type} : List (Lit × DataW H) → Nat
  | [] => 0
  | x :: r => uptoBulkEntry x + uptoBulkEntries r
def uptoBulkEntry {H : Type} : Lit × DataW H → Nat
  | (.string bytes, d) => bytes.length + uptoBulk d + 1
  | (_, d) => uptoBulk d + 1
 end
def uptoSmall : (H : Type) → List (DataW H) → Bool := fun _ ds => decide (uptoBulkAll ds ≤ 1048576)
def OpenSpec.upto (s : _root_.Go.ChangeSpec) : _root_.Go.OpenSpec := { _root_.Go.OpenSpec.ofChange s with cond := some uptoSmall }

/-- 'spinnakerlaw09.ConfStarts', WHERE WHAT IT READS IS OF BULK AT MOST 1048576: true; the input reads as it did. -/
def confStartsUptoRow : OpenClaim := { program := "ytejkhpgahnncnaa", sum := "e68c9204757f28ebd6561e31c6f7afd4334baa926b0d2a579951747543236d81", func := "spinnaker/spinnakerlaw09.ConfStarts", spec := "confStarts", unfollowed := true, recurses := true, apart := false, narrowed := true }
def ConfStartsUptoSaid : Prop := confStartsUptoRow.holds Try.pinned (OpenSpec.upto confStartsSpec)

/-- 'spinnakerlaw09.ConfSame', WHERE WHAT IT READS IS OF BULK AT MOST 1048576: true; the input reads as it did. -/
def confSameUptoRow : OpenClaim := { program := "ytejkhpgahnncnaa", sum := "e68c9204757f28ebd6561e31c6f7afd4334baa926b0d2a579951747543236d81", func := "spinnaker/spinnakerlaw09.ConfSame", spec := "confSame", unfollowed := true, recurses := true, apart := false, narrowed := true }
def ConfSameUptoSaid : Prop := confSameUptoRow.holds Try.pinned (OpenSpec.upto confSameSpec)

/-- 'spinnakerlaw12.PackEncodes', WHERE WHAT IT READS IS OF BULK AT MOST 1048576: true; the input reads as it did. -/
def packEncodesUptoRow : OpenClaim := { program := "ytejkhpgahnncnaa", sum := "e68c9204757f28ebd6561e31c6f7afd4334baa926b0d2a579951747543236d81", func := "spinnaker/spinnakerlaw12.PackEncodes", spec := "packEncodes", unfollowed := true, recurses := true, apart := false, narrowed := true }
def PackEncodesUptoSaid : Prop := packEncodesUptoRow.holds Try.pinned (OpenSpec.upto packEncodesSpec)

/-- 'spinnakerlaw12.PackDecodes', WHERE WHAT IT READS IS OF BULK AT MOST 1048576: true; the input reads as it did. -/
def packDecodesUptoRow : OpenClaim := { program := "ytejkhpgahnncnaa", sum := "e68c9204757f28ebd6561e31c6f7afd4334baa926b0d2a579951747543236d81", func := "spinnaker/spinnakerlaw12.PackDecodes", spec := "packDecodes", unfollowed := true, recurses := true, apart := false, narrowed := true }
def PackDecodesUptoSaid : Prop := packDecodesUptoRow.holds Try.pinned (OpenSpec.upto packDecodesSpec)

/-- 'spinnakerlaw12.PackBack', WHERE WHAT IT READS IS OF BULK AT MOST 1048576: true; the input reads as it did. -/
def packBackUptoRow : OpenClaim := { program := "ytejkhpgahnncnaa", sum := "e68c9204757f28ebd6561e31c6f7afd4334baa926b0d2a579951747543236d81", func := "spinnaker/spinnakerlaw12.PackBack", spec := "packBack", unfollowed := true, recurses := true, apart := false, narrowed := true }
def PackBackUptoSaid : Prop := packBackUptoRow.holds Try.pinned (OpenSpec.upto packBackSpec)

/-- 'spinnakerlaw12.PackOnce', WHERE WHAT IT READS IS OF BULK AT MOST 1048576: true; the input reads as it did. -/
def packOnceUptoRow : OpenClaim := { program := "ytejkhpgahnncnaa", sum := "e68c9204757f28ebd6561e31c6f7afd4334baa926b0d2a579951747543236d81", func := "spinnaker/spinnakerlaw12.PackOnce", spec := "packOnce", unfollowed := true, recurses := true, apart := false, narrowed := true }
def PackOnceUptoSaid : Prop := packOnceUptoRow.holds Try.pinned (OpenSpec.upto packOnceSpec)

/-- 'spinnakerlaw12.PackSizes', WHERE WHAT IT READS IS OF BULK AT MOST 1048576: true; the input reads as it did. -/
def packSizesUptoRow : OpenClaim := { program := "ytejkhpgahnncnaa", sum := "e68c9204757f28ebd6561e31c6f7afd4334baa926b0d2a579951747543236d81", func := "spinnaker/spinnakerlaw12.PackSizes", spec := "packSizes", unfollowed := true, recurses := true, apart := false, narrowed := true }
def PackSizesUptoSaid : Prop := packSizesUptoRow.holds Try.pinned (OpenSpec.upto packSizesSpec)

end Rows
end Go.Proofs.Ytejkhpgahnncnaa
