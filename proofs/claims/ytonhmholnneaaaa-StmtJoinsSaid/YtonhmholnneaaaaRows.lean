/-
  No cell of these rows narrows 'for every input' (looked for: loops, veiled, ifaces, maps, wideKeys, modest, calm, conditions, laid).
  DERIVED. THE GIVEN ROWS OF THIS SEAT. 3 by the template 'for every input the law returns true; each argument reads behind the call as it read before'; 0 by the template 'total and deterministic' (their statements: YtonhmholnneaaaaTotals.lean).
  GIVEN WITH THE SEED: the statements are not yours to turn. If you find one false, say at which input.
  Laid BY PROGRAM, IN A SANDBOX (cutbox-rows.mjs): the forced cells as the released guide's own fill.sh prints them over the translation 6ba7d932e8967c9d… (all of the seat's roots in one cut). By AI agents, Wed Nov 11 2026. No macro, syntax, notation, axiom, sorry.
-/
import Derived.Test.YtonhmholnneaaaaChecked
import GoSem.Claim
import GoSem.ClaimJoined
import GoSem.ClaimMapViews
import Derived.JoinedTies
import Derived.KernelRfl
namespace Go.Proofs.Ytonhmholnneaaaa
/- THE CELL 'sum', in the pinned program and in every row, IS THE sha256 OF THE DUMP (.gsa) THAT YtonhmholnneaaaaProg.lean LOADS. Nothing in Lean hashes anything: it is a label: what it is worth is what the hold of that sum in a sandbox is worth. -/
noncomputable def Try.pinned : Pinned := { name := "ytonhmholnneaaaa", sum := "6ba7d932e8967c9da5ff12e9d16a0fd714171a5a55edf2d5ef46ddeee6ec651e", checked := Try.checked }
namespace Rows
def none {H : Type} : Left H := { results := [], args := [] }

/-- 'spinnakerlaw03.StmtBack': WHATEVER THE INPUT: true; the input reads as it did. -/
def stmtBackSpec : ChangeSpec := { name := "stmtBack", fn := fun _ => fun
  | [d1, d2] => { results := [.lit (.bool true)], args := [d1, d2] }
  | _ => none }
def stmtBackRow : OpenClaim := { program := "ytonhmholnneaaaa", sum := "6ba7d932e8967c9da5ff12e9d16a0fd714171a5a55edf2d5ef46ddeee6ec651e", func := "spinnaker/spinnakerlaw03.StmtBack", spec := "stmtBack", unfollowed := true, recurses := true, apart := false }
def StmtBackSaid : Prop := stmtBackRow.holds Try.pinned (OpenSpec.ofChange stmtBackSpec)

/-- ITS FALSE NEIGHBOUR: 'it returns false'. Refute it at one input. -/
def stmtBackWrong : ChangeSpec := { name := "stmtBack", fn := fun _ => fun
  | [d1, d2] => { results := [.lit (.bool false)], args := [d1, d2] }
  | _ => none }
def StmtBackWrongFalsely : Prop := stmtBackRow.holds Try.pinned (OpenSpec.ofChange stmtBackWrong)

/-- 'spinnakerlaw03.StmtRight': WHATEVER THE INPUT: true; the input reads as it did. -/
def stmtRightSpec : ChangeSpec := { name := "stmtRight", fn := fun _ => fun
  | [d] => { results := [.lit (.bool true)], args := [d] }
  | _ => none }
def stmtRightRow : OpenClaim := { program := "ytonhmholnneaaaa", sum := "6ba7d932e8967c9da5ff12e9d16a0fd714171a5a55edf2d5ef46ddeee6ec651e", func := "spinnaker/spinnakerlaw03.StmtRight", spec := "stmtRight", unfollowed := true, recurses := true, apart := false }
def StmtRightSaid : Prop := stmtRightRow.holds Try.pinned (OpenSpec.ofChange stmtRightSpec)

/-- ITS FALSE NEIGHBOUR: 'it returns false'. Refute it at one input. -/
def stmtRightWrong : ChangeSpec := { name := "stmtRight", fn := fun _ => fun
  | [d] => { results := [.lit (.bool false)], args := [d] }
  | _ => none }
def StmtRightWrongFalsely : Prop := stmtRightRow.holds Try.pinned (OpenSpec.ofChange stmtRightWrong)

/-- 'spinnakerlaw03.StmtJoins': WHATEVER THE INPUT: true; the input reads as it did. -/
def stmtJoinsSpec : ChangeSpec := { name := "stmtJoins", fn := fun _ => fun
  | [d1, d2] => { results := [.lit (.bool true)], args := [d1, d2] }
  | _ => none }
def stmtJoinsRow : OpenClaim := { program := "ytonhmholnneaaaa", sum := "6ba7d932e8967c9da5ff12e9d16a0fd714171a5a55edf2d5ef46ddeee6ec651e", func := "spinnaker/spinnakerlaw03.StmtJoins", spec := "stmtJoins", unfollowed := true, recurses := true, apart := false }
def StmtJoinsSaid : Prop := stmtJoinsRow.holds Try.pinned (OpenSpec.ofChange stmtJoinsSpec)

/-- ITS FALSE NEIGHBOUR: 'it returns false'. Refute it at one input. -/
def stmtJoinsWrong : ChangeSpec := { name := "stmtJoins", fn := fun _ => fun
  | [d1, d2] => { results := [.lit (.bool false)], args := [d1, d2] }
  | _ => none }
def StmtJoinsWrongFalsely : Prop := stmtJoinsRow.holds Try.pinned (OpenSpec.ofChange stmtJoinsWrong)

/- THE SECOND FORM. 'bulk': how many values and letters a reading holds, each counted each time it is reached (what is shared counts as often as it is met; a slice's spare places count too). A statement '..UptoSaid' is the law's where the arguments, and the package variables that the reading takes, are together of bulk at most 1048576: NARROWER than '..Said'. Prove '..Said' where nothing that the law and all that it calls make is longer than what came in: it says more and counts as full. Else prove '..UptoSaid'. A law counts once. -/
mutual
def uptoBulk {H : Type} : DataW H → Nat
  | .lit (.string bytes) => bytes.length + 1
  | .lit _ => 1
  | .nil => 1
  | .ptr d => uptoBulk d + 1
  | .slice elems spare => uptoBulkAll elems + uptoBulkAll spare + 1
  | .agg parts => uptoBulkAll parts + 1
  | .iface _ d => uptoBulk d + 1
  | .map entries => uptoBulkEntries entries + 1
  | .held _ => 1
def uptoBulkAll {H : Type} : List (DataW H) → Nat
  | [] => 0
  | d :: r => uptoBulk d + uptoBulkAll r
def uptoBulkEntries {H : Type} : List (Lit × DataW H) → Nat
  | [] => 0
  | x :: r => uptoBulkEntry x + uptoBulkEntries r
def uptoBulkEntry {H : Type} : Lit × DataW H → Nat
  | (.string bytes, d) => bytes.length + uptoBulk d + 1
  | (_, d) => uptoBulk d + 1
 end
def uptoSmall : (H : Type) → List (DataW H) → Bool := fun _ ds => decide (uptoBulkAll ds ≤ 1048576)
def OpenSpec.upto (s : _root_.Go.ChangeSpec) : _root_.Go.OpenSpec := { _root_.Go.OpenSpec.ofChange s with cond := some uptoSmall }

/-- 'spinnakerlaw03.StmtBack', WHERE WHAT IT READS IS OF BULK AT MOST 1048576: true; the input reads as it did. -/
def stmtBackUptoRow : OpenClaim := { program := "ytonhmholnneaaaa", sum := "6ba7d932e8967c9da5ff12e9d16a0fd714171a5a55edf2d5ef46ddeee6ec651e", func := "spinnaker/spinnakerlaw03.StmtBack", spec := "stmtBack", unfollowed := true, recurses := true, apart := false, narrowed := true }
def StmtBackUptoSaid : Prop := stmtBackUptoRow.holds Try.pinned (OpenSpec.upto stmtBackSpec)

/-- 'spinnakerlaw03.StmtRight', WHERE WHAT IT READS IS OF BULK AT MOST 1048576: true; the input reads as it did. -/
def stmtRightUptoRow : OpenClaim := { program := "ytonhmholnneaaaa", sum := "6ba7d932e8967c9da5ff12e9d16a0fd714171a5a55edf2d5ef46ddeee6ec651e", func := "spinnaker/spinnakerlaw03.StmtRight", spec := "stmtRight", unfollowed := true, recurses := true, apart := false, narrowed := true }
def StmtRightUptoSaid : Prop := stmtRightUptoRow.holds Try.pinned (OpenSpec.upto stmtRightSpec)

/-- 'spinnakerlaw03.StmtJoins', WHERE WHAT IT READS IS OF BULK AT MOST 1048576: true; the input reads as it did. -/
def stmtJoinsUptoRow : OpenClaim := { program := "ytonhmholnneaaaa", sum := "6ba7d932e8967c9da5ff12e9d16a0fd714171a5a55edf2d5ef46ddeee6ec651e", func := "spinnaker/spinnakerlaw03.StmtJoins", spec := "stmtJoins", unfollowed := true, recurses := true, apart := false, narrowed := true }
def StmtJoinsUptoSaid : Prop := stmtJoinsUptoRow.holds Try.pinned (OpenSpec.upto stmtJoinsSpec)

end Rows
end Go.Proofs.Ytonhmholnneaaaa
