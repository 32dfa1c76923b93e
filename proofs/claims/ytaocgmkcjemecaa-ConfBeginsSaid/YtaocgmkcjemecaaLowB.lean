/- The program's lower.fits: an instruction that can be. Parts of the proofs of the laws of layers 6 to 22. Conditions: none. -/
import Derived.Test.YtaocgmkcjemecaaLowA
import Derived.Test.YtaocgmkcjemecaaLowOf
namespace Go.Proofs.Ytaocgmkcjemecaa
open Go.RowKit
set_option linter.unusedVariables false
set_option linter.unusedSimpArgs false

def BoolBelow (b : Bool) (w : World) (e : Ending) (w' : World) : Prop := e = .returned (.bool b) ∧ Below w.heap.size w w'

set_option maxRecDepth 100000 in
set_option maxHeartbeats 1000000 in
theorem fits1_any (has : Bool) (l : List OpS) (regs : Int) (b : Nat) (v : Value) (w : World) (hv : Sl rOp w v l) (hc : w.cell? ⟨b, 0, none⟩ = some (.int .i64 regs)) :
    Calls Try.prog 109 #[.bool has, v, .pointer (some ⟨b, 0, none⟩)] w (BoolBelow (codeB has l regs) w) := by
  have hl := hv.len
  have HV := Lib.hid hv
  obtain ⟨a, c, rfl, _⟩ := ops_view hv
  clear hv
  cases has
  · go_enter Try.func109, Try.ntmps109
    go_wp2
    all_goals
      go_ret
      refine ⟨congrArg (fun b => Ending.returned (.bool b)) ?_, Below.refl _ _⟩
      rw [Bool.eq_iff_iff]
      simp [codeB, List.isEmpty_iff, ← List.length_eq_zero_iff]
      try omega
  · go_enter Try.func109, Try.ntmps109
    go_wp2_with fail
    refine (rightC_any l [] regs 0 _ _ _ HV.out (Sl.nil _ _)).mono ?_
    rintro e w1 ⟨rfl, hb⟩
    go_wp2
    all_goals
      go_ret
      refine ⟨congrArg (fun b => Ending.returned (.bool b)) ?_, hb⟩
      simp [codeB, *]

end Go.Proofs.Ytaocgmkcjemecaa
