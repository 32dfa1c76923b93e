/- Parts of the proofs of the laws of layer 1, scan (text ScanA). Conditions: none. -/
import Derived.Test.YtnmlejjdofbaiaaRows
import Derived.Test.YtnmlejjdofbaiaaPlainScan
import Derived.WalkKit
import Derived.WalkSpells
import Derived.WalkLawsBesides
namespace Go.Proofs.Ytnmlejjdofbaiaa
open Go.RowKit

set_option maxHeartbeats 400000 in
theorem letter_any (c : Int) (w : World) :
    Calls Try.prog 20 #[.int .i32 c] w fun e w' => e = .returned (.bool (letterB c)) ∧ w = w' := by
  go_enter Try.func20, Try.ntmps20
  go_wp2
  all_goals
    go_ret
    refine ⟨congrArg (fun b => Ending.returned (.bool b)) ?_, rfl⟩
    rw [Bool.eq_iff_iff]
    simp [letterB]
    omega

set_option maxHeartbeats 400000 in
theorem digit_any (c : Int) (w : World) :
    Calls Try.prog 22 #[.int .i32 c] w fun e w' => e = .returned (.bool (digitB c)) ∧ w = w' := by
  go_enter Try.func22, Try.ntmps22
  go_wp2
  all_goals
    go_ret
    refine ⟨congrArg (fun b => Ending.returned (.bool b)) ?_, rfl⟩
    rw [Bool.eq_iff_iff]
    simp [digitB]
    omega

set_option maxHeartbeats 400000 in
theorem line_any (c : Int) (w : World) :
    Calls Try.prog 19 #[.int .i32 c] w fun e w' => e = .returned (.bool (lineB c)) ∧ w = w' := by
  go_enter Try.func19, Try.ntmps19
  go_wp2
  all_goals
    go_ret
    refine ⟨congrArg (fun b => Ending.returned (.bool b)) ?_, rfl⟩
    rw [Bool.eq_iff_iff]
    simp [lineB]

set_option maxHeartbeats 400000 in
theorem word_any (c : Int) (w : World) :
    Calls Try.prog 21 #[.int .i32 c] w fun e w' => e = .returned (.bool (wordB c)) ∧ w = w' := by
  go_enter Try.func21, Try.ntmps21
  go_wp2_with (first
    | (go_at_call 20; refine (letter_any _ _).mono ?_; rintro e w' ⟨rfl, rfl⟩)
    | (go_at_call 22; refine (digit_any _ _).mono ?_; rintro e w' ⟨rfl, rfl⟩))
  all_goals
    go_ret
    refine ⟨congrArg (fun b => Ending.returned (.bool b)) ?_, rfl⟩
    simp [wordB, *]

set_option maxHeartbeats 400000 in
theorem refLetter_any (c : Int) (w : World) :
    Calls Try.prog 28 #[.int .u8 c] w fun e w' => e = .returned (.bool (letterB c)) ∧ w = w' := by
  go_enter Try.func28, Try.ntmps28
  go_wp2
  all_goals
    go_ret
    refine ⟨congrArg (fun b => Ending.returned (.bool b)) ?_, rfl⟩
    rw [Bool.eq_iff_iff]
    simp [letterB]
    omega

set_option maxHeartbeats 400000 in
theorem refDigit_any (c : Int) (w : World) :
    Calls Try.prog 29 #[.int .u8 c] w fun e w' => e = .returned (.bool (digitB c)) ∧ w = w' := by
  go_enter Try.func29, Try.ntmps29
  go_wp2
  all_goals
    go_ret
    refine ⟨congrArg (fun b => Ending.returned (.bool b)) ?_, rfl⟩
    rw [Bool.eq_iff_iff]
    simp [digitB]
    omega

end Go.Proofs.Ytnmlejjdofbaiaa
