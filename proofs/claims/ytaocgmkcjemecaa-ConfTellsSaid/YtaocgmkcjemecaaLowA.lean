/- The program's lower.place, lower.done. Parts of the proofs of the laws of layers 6 to 22. Conditions: none. -/
import Derived.Test.YtaocgmkcjemecaaCodeE
namespace Go.Proofs.Ytaocgmkcjemecaa
open Go.RowKit
set_option linter.unusedVariables false
set_option linter.unusedSimpArgs false

set_option maxHeartbeats 400000 in
theorem place_any (has : Bool) (n m : Int) (w : World) : Calls Try.prog 111 #[.bool has, .int .i64 n, .int .i64 m] w fun e w' => e = .returned (.bool (placeB has n m)) ∧ w = w' := by
  cases has
  all_goals
    go_enter Try.func111, Try.ntmps111
    go_wp2
    all_goals
      go_ret
      refine ⟨congrArg (fun b => Ending.returned (.bool b)) ?_, rfl⟩
      rw [Bool.eq_iff_iff]
      simp [placeB, inB]
      try omega

set_option maxHeartbeats 400000 in
theorem done_any (x : InstrS) (ve vf : Value) (w : World) (he : Sl rOp w ve x.e) (hf : Sl rOp w vf x.f) :
    Calls Try.prog 99 #[.agg #[.int .i64 x.op, .int .i64 x.reg, .int .i64 x.loc, ve, vf, .bool x.ne, .int .i64 x.goal]] w fun e w' => e = .returned (.bool (doneOk x)) ∧ Below w.heap.size w w' := by
  have hl1 := he.len
  have hl2 := hf.len
  obtain ⟨a, c, rfl, _⟩ := ops_view he
  obtain ⟨a2, c2, rfl, _⟩ := ops_view hf
  clear he hf
  obtain ⟨op, reg, loc, le, lf, ne, goal⟩ := x
  cases ne
  all_goals
    go_enter Try.func99, Try.ntmps99
    go_wp2
    all_goals
      go_ret
      refine ⟨congrArg (fun b => Ending.returned (.bool b)) ?_, (Below.refl _ _).alloc (Nat.le_refl _) _⟩
      rw [Bool.eq_iff_iff]
      simp [doneOk, List.isEmpty_iff, ← List.length_eq_zero_iff]
      try first | omega | (intros; simp only [wrap64]; omega)

end Go.Proofs.Ytaocgmkcjemecaa
