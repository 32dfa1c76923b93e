/-
  No cell of these rows narrows 'for every input' (looked for: loops, veiled, ifaces, maps, wideKeys, modest, calm, conditions, laid).
  DERIVED. THE GIVEN ROWS OF THIS SEAT. 3 by the template 'for every input the law returns true; each argument reads behind the call as it read before'; 0 by the template 'total and deterministic' (their statements: YtpnhafdimkmbbaaGreatTotals.lean).
  GIVEN WITH THE SEED: the statements are not yours to turn. If you find one false, say at which input.
  Laid BY PROGRAM, IN A SANDBOX (cutbox-rows.mjs): the forced cells as the released guide's own fill.sh prints them over the translation df92a237e429c1f5… (all of the seat's roots in one cut). By AI agents, Wed Nov 11 2026. No macro, syntax, notation, axiom, sorry.
-/
import Derived.Test.YtpnhafdimkmbbaaGreatChecked
import GoSem.Claim
import GoSem.ClaimJoined
import GoSem.ClaimMapViews
import Derived.JoinedTies
import Derived.KernelRfl
namespace Go.Proofs.YtpnhafdimkmbbaaGreat
/- THE CELL 'sum', in the pinned program and in every row, IS THE sha256 OF THE DUMP (.gsa) THAT YtpnhafdimkmbbaaGreatProg.lean LOADS. Nothing in Lean hashes anything: it is a label: what it is worth is what the hold of that sum in a sandbox is worth. -/
noncomputable def Tryz.pinned : Pinned := { name := "ytpnhafdimkmbbaagreat", sum := "df92a237e429c1f5428076da1ef38f90658606516c3e82c161b1f1546f7231c4", checked := Tryz.checked }
namespace Rows
def none {H : Type} : Left H := { results := [], args := [] }

/-- 'spinnakerlaw05.LegalChecks': WHATEVER THE INPUT: true; the input reads as it did. -/
def legalChecksSpec : ChangeSpec := { name := "legalChecks", fn := fun _ => fun
  | [d] => { results := [.lit (.bool true)], args := [d] }
  | _ => none }
def legalChecksRow : OpenClaim := { program := "ytpnhafdimkmbbaagreat", sum := "df92a237e429c1f5428076da1ef38f90658606516c3e82c161b1f1546f7231c4", func := "spinnaker/spinnakerlaw05.LegalChecks", spec := "legalChecks", unfollowed := true, recurses := true, apart := false }
def LegalChecksSaid : Prop := legalChecksRow.holds Tryz.pinned (OpenSpec.ofChange legalChecksSpec)

/-- ITS FALSE NEIGHBOUR: 'it returns false'. Refute it at one input. -/
def legalChecksWrong : ChangeSpec := { name := "legalChecks", fn := fun _ => fun
  | [d] => { results := [.lit (.bool false)], args := [d] }
  | _ => none }
def LegalChecksWrongFalsely : Prop := legalChecksRow.holds Tryz.pinned (OpenSpec.ofChange legalChecksWrong)

/-- 'spinnakerlaw05.LegalTexts': WHATEVER THE INPUT: true; the input reads as it did. -/
def legalTextsSpec : ChangeSpec := { name := "legalTexts", fn := fun _ => fun
  | [d] => { results := [.lit (.bool true)], args := [d] }
  | _ => none }
def legalTextsRow : OpenClaim := { program := "ytpnhafdimkmbbaagreat", sum := "df92a237e429c1f5428076da1ef38f90658606516c3e82c161b1f1546f7231c4", func := "spinnaker/spinnakerlaw05.LegalTexts", spec := "legalTexts", unfollowed := true, recurses := true, apart := false }
def LegalTextsSaid : Prop := legalTextsRow.holds Tryz.pinned (OpenSpec.ofChange legalTextsSpec)

/-- ITS FALSE NEIGHBOUR: 'it returns false'. Refute it at one input. -/
def legalTextsWrong : ChangeSpec := { name := "legalTexts", fn := fun _ => fun
  | [d] => { results := [.lit (.bool false)], args := [d] }
  | _ => none }
def LegalTextsWrongFalsely : Prop := legalTextsRow.holds Tryz.pinned (OpenSpec.ofChange legalTextsWrong)

/-- 'spinnakerlaw05.LegalLess': WHATEVER THE INPUT: true; the input reads as it did. -/
def legalLessSpec : ChangeSpec := { name := "legalLess", fn := fun _ => fun
  | [d] => { results := [.lit (.bool true)], args := [d] }
  | _ => none }
def legalLessRow : OpenClaim := { program := "ytpnhafdimkmbbaagreat", sum := "df92a237e429c1f5428076da1ef38f90658606516c3e82c161b1f1546f7231c4", func := "spinnaker/spinnakerlaw05.LegalLess", spec := "legalLess", unfollowed := true, recurses := true, apart := false }
def LegalLessSaid : Prop := legalLessRow.holds Tryz.pinned (OpenSpec.ofChange legalLessSpec)

/-- ITS FALSE NEIGHBOUR: 'it returns false'. Refute it at one input. -/
def legalLessWrong : ChangeSpec := { name := "legalLess", fn := fun _ => fun
  | [d] => { results := [.lit (.bool false)], args := [d] }
  | _ => none }
def LegalLessWrongFalsely : Prop := legalLessRow.holds Tryz.pinned (OpenSpec.ofChange legalLessWrong)

/- THE SECOND FORM. 'bulk': how many values and letters a reading holds, each counted each time it is reached (what is shared counts as often as it is met; a slice's spare places count too). A statement '..UptoSaid' is the law's where the arguments, and the package variables that the reading takes, are together of bulk at most 1048576: NARROWER than '..Said'. Prove '..Said' where nothing that the law and all that it calls make is longer than what came in: it says more and counts as full. Else prove '..UptoSaid'. A law counts once. -/
mutual
def uptoBulk {H : Type} : DataW H → Nat
  | .lit (.string bytes) => bytes.length + 1
  | .lit _ => 1
  | .nil => 1
  | .ptr d => uptoBulk d + 1
  | .slice elems spare => uptoBulkAll elems + uptoBulkAll spare + 1
  | .agg parts => uptoBulkAll parts + 1
  | .iface _ d => uptoBulk d + 1
  | .map entries => uptoBulkEntries entries + 1
  | .held _ => 1
def uptoBulkAll {H : Type} : List (DataW H) → Nat
  | [] => 0
  | d :: r => uptoBulk d + uptoBulkAll r
def uptoBulkEntries {H : Type} : List (Lit × DataW H) → Nat
  | [] => 0
  | x :: r => uptoBulkEntry x + uptoBulkEntries r
def uptoBulkEntry {H : Type} : Lit × DataW H → Nat
  | (.string bytes, d) => bytes.length + uptoBulk d + 1
  | (_, d) => uptoBulk d + 1
 end
def uptoSmall : (H : Type) → List (DataW H) → Bool := fun _ ds => decide (uptoBulkAll ds ≤ 1048576)
def OpenSpec.upto (s : _root_.Go.ChangeSpec) : _root_.Go.OpenSpec := { _root_.Go.OpenSpec.ofChange s with cond := some uptoSmall }

/-- 'spinnakerlaw05.LegalChecks', WHERE WHAT IT READS IS OF BULK AT MOST 1048576: true; the input reads as it did. -/
def legalChecksUptoRow : OpenClaim := { program := "ytpnhafdimkmbbaagreat", sum := "df92a237e429c1f5428076da1ef38f90658606516c3e82c161b1f1546f7231c4", func := "spinnaker/spinnakerlaw05.LegalChecks", spec := "legalChecks", unfollowed := true, recurses := true, apart := false, narrowed := true }
def LegalChecksUptoSaid : Prop := legalChecksUptoRow.holds Tryz.pinned (OpenSpec.upto legalChecksSpec)

/-- 'spinnakerlaw05.LegalTexts', WHERE WHAT IT READS IS OF BULK AT MOST 1048576: true; the input reads as it did. -/
def legalTextsUptoRow : OpenClaim := { program := "ytpnhafdimkmbbaagreat", sum := "df92a237e429c1f5428076da1ef38f90658606516c3e82c161b1f1546f7231c4", func := "spinnaker/spinnakerlaw05.LegalTexts", spec := "legalTexts", unfollowed := true, recurses := true, apart := false, narrowed := true }
def LegalTextsUptoSaid : Prop := legalTextsUptoRow.holds Tryz.pinned (OpenSpec.upto legalTextsSpec)

/-- 'spinnakerlaw05.LegalLess', WHERE WHAT IT READS IS OF BULK AT MOST 1048576: true; the input reads as it did. -/
def legalLessUptoRow : OpenClaim := { program := "ytpnhafdimkmbbaagreat", sum := "df92a237e429c1f5428076da1ef38f90658606516c3e82c161b1f1546f7231c4", func := "spinnaker/spinnakerlaw05.LegalLess", spec := "legalLess", unfollowed := true, recurses := true, apart := false, narrowed := true }
def LegalLessUptoSaid : Prop := legalLessUptoRow.holds Tryz.pinned (OpenSpec.upto legalLessSpec)

end Rows
end Go.Proofs.YtpnhafdimkmbbaaGreat
