/-
  No cell of these rows narrows 'for every input' (looked for: loops, veiled, ifaces, maps, wideKeys, modest, calm, conditions, laid).
  DERIVED. THE GIVEN ROWS OF THIS SEAT. 2 by the template 'for every input the law returns true; each argument reads behind the call as it read before'; 0 by the template 'total and deterministic' (their statements: YtpnhafdimkmbbaaTotals.lean).
  GIVEN WITH THE SEED: the statements are not yours to turn. If you find one false, say at which input.
  Laid BY PROGRAM, IN A SANDBOX (cutbox-rows.mjs): the forced cells as the released guide's own fill.sh prints them over the translation e7faee145cc1630c… (all of the seat's roots in one cut). By AI agents, Wed Nov 11 2026. No macro, syntax, notation, axiom, sorry.
-/
import Derived.Test.YtpnhafdimkmbbaaChecked
import GoSem.Claim
import GoSem.ClaimJoined
import GoSem.ClaimMapViews
import Derived.JoinedTies
import Derived.KernelRfl
namespace Go.Proofs.Ytpnhafdimkmbbaa
/- THE CELL 'sum', in the pinned program and in every row, IS THE sha256 OF THE DUMP (.gsa) THAT YtpnhafdimkmbbaaProg.lean LOADS. Nothing in Lean hashes anything: it is a label: what it is worth is what the hold of that sum in a sandbox is worth. -/
noncomputable def Try.pinned : Pinned := { name := "ytpnhafdimkmbbaa", sum := "e7faee145cc1630ca08940105529206fc19678af1adaee7ed910992c792ab4ee", checked := Try.checked }
namespace Rows
def none {H : Type} : Left H := { results := [], args := [] }

/-- 'spinnakerlaw05.LegalNames': WHATEVER THE INPUT: true; the input reads as it did. -/
def legalNamesSpec : ChangeSpec := { name := "legalNames", fn := fun _ => fun
  | [d1, d2, d3] => { results := [.lit (.bool true)], args := [d1, d2, d3] }
  | _ => none }
def legalNamesRow : OpenClaim := { program := "ytpnhafdimkmbbaa", sum := "e7faee145cc1630ca08940105529206fc19678af1adaee7ed910992c792ab4ee", func := "spinnaker/spinnakerlaw05.LegalNames", spec := "legalNames", unfollowed := true, recurses := true, apart := false }
def LegalNamesSaid : Prop := legalNamesRow.holds Try.pinned (OpenSpec.ofChange legalNamesSpec)

/-- ITS FALSE NEIGHBOUR: 'it returns false'. Refute it at one input. -/
def legalNamesWrong : ChangeSpec := { name := "legalNames", fn := fun _ => fun
  | [d1, d2, d3] => { results := [.lit (.bool false)], args := [d1, d2, d3] }
  | _ => none }
def LegalNamesWrongFalsely : Prop := legalNamesRow.holds Try.pinned (OpenSpec.ofChange legalNamesWrong)

/-- 'spinnakerlaw05.LegalMore': WHATEVER THE INPUT: true; the input reads as it did. -/
def legalMoreSpec : ChangeSpec := { name := "legalMore", fn := fun _ => fun
  | [d1, d2] => { results := [.lit (.bool true)], args := [d1, d2] }
  | _ => none }
def legalMoreRow : OpenClaim := { program := "ytpnhafdimkmbbaa", sum := "e7faee145cc1630ca08940105529206fc19678af1adaee7ed910992c792ab4ee", func := "spinnaker/spinnakerlaw05.LegalMore", spec := "legalMore", unfollowed := true, recurses := true, apart := false }
def LegalMoreSaid : Prop := legalMoreRow.holds Try.pinned (OpenSpec.ofChange legalMoreSpec)

/-- ITS FALSE NEIGHBOUR: 'it returns false'. Refute it at one input. -/
def legalMoreWrong : ChangeSpec := { name := "legalMore", fn := fun _ => fun
  | [d1, d2] => { results := [.lit (.bool false)], args := [d1, d2] }
  | _ => none }
def LegalMoreWrongFalsely : Prop := legalMoreRow.holds Try.pinned (OpenSpec.ofChange legalMoreWrong)

/- THE SECOND FORM. 'bulk': how many values and letters a reading holds, each counted each time it is reached (what is shared counts as often as it is met; a slice's spare places count too). A statement '..UptoSaid' is the law's where the arguments, and the package variables that the reading takes, are together of bulk at most 1048576: NARROWER than '..Said'. Prove '..Said' where nothing that the law and all that it calls make is longer than what came in: it says more and counts as full. Else prove '..UptoSaid'. A law counts once. -/
mutual
def uptoBulk {H : Type} : DataW H → Nat
  | .lit (.string bytes) => bytes.length + 1
  | .lit _ => 1
  | .nil => 1
  | .ptr d => uptoBulk d + 1
  | .slice elems spare => uptoBulkAll elems + uptoBulkAll spare + 1
  | .agg parts => uptoBulkAll parts + 1
  | .iface _ d => uptoBulk d + 1
  | .map entries => uptoBulkEntries entries + 1
  | .held _ => 1
def uptoBulkAll {H : Type} : List (DataW H) → Nat
  | [] => 0
  | d :: r => uptoBulk d + uptoBulkAll r
def uptoBulkEntries {H : Type} : List (Lit × DataW H) → Nat
  | [] => 0
  | x :: r => uptoBulkEntry x + uptoBulkEntries r
def uptoBulkEntry {H : Type} : Lit × DataW H → Nat
  | (.string bytes, d) => bytes.length + uptoBulk d + 1
  | (_, d) => uptoBulk d + 1
 end
def uptoSmall : (H : Type) → List (DataW H) → Bool := fun _ ds => decide (uptoBulkAll ds ≤ 1048576)
def OpenSpec.upto (s : _root_.Go.ChangeSpec) : _root_.Go.OpenSpec := { _root_.Go.OpenSpec.ofChange s with cond := some uptoSmall }

/-- 'spinnakerlaw05.LegalNames', WHERE WHAT IT READS IS OF BULK AT MOST 1048576: true; the input reads as it did. -/
def legalNamesUptoRow : OpenClaim := { program := "ytpnhafdimkmbbaa", sum := "e7faee145cc1630ca08940105529206fc19678af1adaee7ed910992c792ab4ee", func := "spinnaker/spinnakerlaw05.LegalNames", spec := "legalNames", unfollowed := true, recurses := true, apart := false, narrowed := true }
def LegalNamesUptoSaid : Prop := legalNamesUptoRow.holds Try.pinned (OpenSpec.upto legalNamesSpec)

/-- 'spinnakerlaw05.LegalMore', WHERE WHAT IT READS IS OF BULK AT MOST 1048576: true; the input reads as it did. -/
def legalMoreUptoRow : OpenClaim := { program := "ytpnhafdimkmbbaa", sum := "e7faee145cc1630ca08940105529206fc19678af1adaee7ed910992c792ab4ee", func := "spinnaker/spinnakerlaw05.LegalMore", spec := "legalMore", unfollowed := true, recurses := true, apart := false, narrowed := true }
def LegalMoreUptoSaid : Prop := legalMoreUptoRow.holds Try.pinned (OpenSpec.upto legalMoreSpec)

end Rows
end Go.Proofs.Ytpnhafdimkmbbaa
