/-
  No cell of these rows narrows 'for every input' (looked for: loops, veiled, ifaces, maps, wideKeys, modest, calm, conditions, laid).
  DERIVED. THE GIVEN ROWS OF THIS SEAT. 3 by the template 'for every input the law returns true; each argument reads behind the call as it read before'; 0 by the template 'total and deterministic' (their statements: YtjobghbdfannfaaTotals.lean).
  GIVEN WITH THE SEED: the statements are not yours to turn. If you find one false, say at which input.
  Laid BY PROGRAM, IN A SANDBOX (cutbox-rows.mjs): the forced cells as the released guide's own fill.sh prints them over the translation 17058897aaff6f1d… (all of the seat's roots in one cut). By AI agents, Wed Nov 11 2026. No macro, syntax, notation, axiom, sorry.
-/
import Derived.Test.YtjobghbdfannfaaChecked
import GoSem.Claim
import GoSem.ClaimJoined
import GoSem.ClaimMapViews
import Derived.JoinedTies
import Derived.KernelRfl
namespace Go.Proofs.Ytjobghbdfannfaa
/- THE CELL 'sum', in the pinned program and in every row, IS THE sha256 OF THE DUMP (.gsa) THAT YtjobghbdfannfaaProg.lean LOADS. Nothing in Lean hashes anything: it is a label: what it is worth is what the hold of that sum in a sandbox is worth. -/
noncomputable def Try.pinned : Pinned := { name := "ytjobghbdfannfaa", sum := "17058897aaff6f1d1cfc68c6e9c1e0d0f1b2a903b77c505dfa3ffa144711b3e9", checked := Try.checked }
namespace Rows
def none {H : Type} : Left H := { results := [], args := [] }

/-- 'spinnakerlaw02.ExprShows': WHATEVER THE INPUT: true; the input reads as it did. -/
def exprShowsSpec : ChangeSpec := { name := "exprShows", fn := fun _ => fun
  | [d1, d2] => { results := [.lit (.bool true)], args := [d1, d2] }
  | _ => none }
def exprShowsRow : OpenClaim := { program := "ytjobghbdfannfaa", sum := "17058897aaff6f1d1cfc68c6e9c1e0d0f1b2a903b77c505dfa3ffa144711b3e9", func := "spinnaker/spinnakerlaw02.ExprShows", spec := "exprShows", unfollowed := true, recurses := true, apart := false }
def ExprShowsSaid : Prop := exprShowsRow.holds Try.pinned (OpenSpec.ofChange exprShowsSpec)

/-- ITS FALSE NEIGHBOUR: 'it returns false'. Refute it at one input. -/
def exprShowsWrong : ChangeSpec := { name := "exprShows", fn := fun _ => fun
  | [d1, d2] => { results := [.lit (.bool false)], args := [d1, d2] }
  | _ => none }
def ExprShowsWrongFalsely : Prop := exprShowsRow.holds Try.pinned (OpenSpec.ofChange exprShowsWrong)

/-- 'spinnakerlaw02.ExprBack': WHATEVER THE INPUT: true; the input reads as it did. -/
def exprBackSpec : ChangeSpec := { name := "exprBack", fn := fun _ => fun
  | [d] => { results := [.lit (.bool true)], args := [d] }
  | _ => none }
def exprBackRow : OpenClaim := { program := "ytjobghbdfannfaa", sum := "17058897aaff6f1d1cfc68c6e9c1e0d0f1b2a903b77c505dfa3ffa144711b3e9", func := "spinnaker/spinnakerlaw02.ExprBack", spec := "exprBack", unfollowed := true, recurses := true, apart := false }
def ExprBackSaid : Prop := exprBackRow.holds Try.pinned (OpenSpec.ofChange exprBackSpec)

/-- ITS FALSE NEIGHBOUR: 'it returns false'. Refute it at one input. -/
def exprBackWrong : ChangeSpec := { name := "exprBack", fn := fun _ => fun
  | [d] => { results := [.lit (.bool false)], args := [d] }
  | _ => none }
def ExprBackWrongFalsely : Prop := exprBackRow.holds Try.pinned (OpenSpec.ofChange exprBackWrong)

/-- 'spinnakerlaw02.ExprRight': WHATEVER THE INPUT: true; the input reads as it did. -/
def exprRightSpec : ChangeSpec := { name := "exprRight", fn := fun _ => fun
  | [d] => { results := [.lit (.bool true)], args := [d] }
  | _ => none }
def exprRightRow : OpenClaim := { program := "ytjobghbdfannfaa", sum := "17058897aaff6f1d1cfc68c6e9c1e0d0f1b2a903b77c505dfa3ffa144711b3e9", func := "spinnaker/spinnakerlaw02.ExprRight", spec := "exprRight", unfollowed := true, recurses := true, apart := false }
def ExprRightSaid : Prop := exprRightRow.holds Try.pinned (OpenSpec.ofChange exprRightSpec)

/-- ITS FALSE NEIGHBOUR: 'it returns false'. Refute it at one input. -/
def exprRightWrong : ChangeSpec := { name := "exprRight", fn := fun _ => fun
  | [d] => { results := [.lit (.bool false)], args := [d] }
  | _ => none }
def ExprRightWrongFalsely : Prop := exprRightRow.holds Try.pinned (OpenSpec.ofChange exprRightWrong)

/- THE SECOND FORM. 'bulk': how many values and letters a reading holds, each counted each time it is reached (what is shared counts as often as it is met; a slice's spare places count too). A statement '..UptoSaid' is the law's where the arguments, and the package variables that the reading takes, are together of bulk at most 1048576: NARROWER than '..Said'. Prove '..Said' where nothing that the law and all that it calls make is longer than what came in: it says more and counts as full. Else prove '..UptoSaid'. A law counts once. -/
mutual
def uptoBulk {H : Type} : DataW H → Nat
  | .lit (.string bytes) => bytes.length + 1
  | .lit _ => 1
  | .nil => 1
  | .ptr d => uptoBulk d + 1
  | .slice elems spare => uptoBulkAll elems + uptoBulkAll spare + 1
  | .agg parts => uptoBulkAll parts + 1
  | .iface _ d => uptoBulk d + 1
  | .map entries => uptoBulkEntries entries + 1
  | .held _ => 1
def uptoBulkAll {H : Type} : List (DataW H) → Nat
  | [] => 0
  | d :: r => uptoBulk d + uptoBulkAll r
def uptoBulkEntries {H : Type} : List (Lit × DataW H) → Nat
  | [] => 0
  | x :: r => uptoBulkEntry x + uptoBulkEntries r
def uptoBulkEntry {H : Type} : Lit × DataW H → Nat
  | (.string bytes, d) => bytes.length + uptoBulk d + 1
  | (_, d) => uptoBulk d + 1
 end
def uptoSmall : (H : Type) → List (DataW H) → Bool := fun _ ds => decide (uptoBulkAll ds ≤ 1048576)
def OpenSpec.upto (s : _root_.Go.ChangeSpec) : _root_.Go.OpenSpec := { _root_.Go.OpenSpec.ofChange s with cond := some uptoSmall }

/-- 'spinnakerlaw02.ExprShows', WHERE WHAT IT READS IS OF BULK AT MOST 1048576: true; the input reads as it did. -/
def exprShowsUptoRow : OpenClaim := { program := "ytjobghbdfannfaa", sum := "17058897aaff6f1d1cfc68c6e9c1e0d0f1b2a903b77c505dfa3ffa144711b3e9", func := "spinnaker/spinnakerlaw02.ExprShows", spec := "exprShows", unfollowed := true, recurses := true, apart := false, narrowed := true }
def ExprShowsUptoSaid : Prop := exprShowsUptoRow.holds Try.pinned (OpenSpec.upto exprShowsSpec)

/-- 'spinnakerlaw02.ExprBack', WHERE WHAT IT READS IS OF BULK AT MOST 1048576: true; the input reads as it did. -/
def exprBackUptoRow : OpenClaim := { program := "ytjobghbdfannfaa", sum := "17058897aaff6f1d1cfc68c6e9c1e0d0f1b2a903b77c505dfa3ffa144711b3e9", func := "spinnaker/spinnakerlaw02.ExprBack", spec := "exprBack", unfollowed := true, recurses := true, apart := false, narrowed := true }
def ExprBackUptoSaid : Prop := exprBackUptoRow.holds Try.pinned (OpenSpec.upto exprBackSpec)

/-- 'spinnakerlaw02.ExprRight', WHERE WHAT IT READS IS OF BULK AT MOST 1048576: true; the input reads as it did. -/
def exprRightUptoRow : OpenClaim := { program := "ytjobghbdfannfaa", sum := "17058897aaff6f1d1cfc68c6e9c1e0d0f1b2a903b77c505dfa3ffa144711b3e9", func := "spinnaker/spinnakerlaw02.ExprRight", spec := "exprRight", unfollowed := true, recurses := true, apart := false, narrowed := true }
def ExprRightUptoSaid : Prop := exprRightUptoRow.holds Try.pinned (OpenSpec.upto exprRightSpec)

end Rows
end Go.Proofs.Ytjobghbdfannfaa
