/- The program's operators. Parts of the proofs of the laws of layers 6 to 22. Conditions: none. -/
import Derived.Test.YtaocgmkcjemecaaCodeP
namespace Go.Proofs.Ytaocgmkcjemecaa
open Go.RowKit
set_option linter.unusedVariables false
set_option linter.unusedSimpArgs false

set_option maxRecDepth 100000 in
set_option maxHeartbeats 4000000 in
theorem of_any (op : Int) (w : World) : Calls Try.prog 118 #[.int .i64 op] w (OfPost op w) := by
  by_cases h : 5 ≤ op ∧ op ≤ 14
  · have hc : op = 5 ∨ op = 6 ∨ op = 7 ∨ op = 8 ∨ op = 9 ∨ op = 10 ∨ op = 11 ∨ op = 12 ∨ op = 13 ∨ op = 14 := by omega
    clear h
    rcases hc with rfl | rfl | rfl | rfl | rfl | rfl | rfl | rfl | rfl | rfl
    all_goals first | exact of_5 w | exact of_6 w | exact of_7 w | exact of_8 w | exact of_9 w | exact of_10 w | exact of_11 w | exact of_12 w | exact of_13 w | exact of_14 w
  · have ht : takesOf op = 0 := by simp only [takesOf]; rw [if_neg (by omega), if_neg (by omega)]
    have hd : doVal op = .nilFunc := by
      simp only [doVal]
      repeat rw [if_neg (by omega)]
    have hb : decide (5 ≤ op ∧ op ≤ 14) = false := decide_eq_false h
    have HT := Lib.hid ht; have HD := Lib.hid hd; have HB := Lib.hid hb
    clear ht hd hb
    by_cases h5 : op < 5
    · clear h
      go_enter Try.func118, Try.ntmps118
      go_upto_region 1 with (fail)
      iterate 31 go_step
      refine wpList_run rfl (.agg #[.int .i64 0, .nilFunc, .int .i64 0, .nilFunc, .int .i64 0, .nilFunc, .int .i64 0, .nilFunc, .int .i64 0, .nilFunc, .int .i64 1, .func (.func 119) #[] #[], .int .i64 2, .func (.func 121) #[] #[], .int .i64 2, .func (.func 122) #[] #[], .int .i64 2, .func (.func 123) #[] #[], .int .i64 2, .func (.func 124) #[] #[], .int .i64 2, .func (.func 125) #[] #[], .int .i64 2, .func (.func 126) #[] #[], .int .i64 2, .func (.func 127) #[] #[], .int .i64 2, .func (.func 128) #[] #[], .int .i64 2, .func (.func 129) #[] #[]]) (by kernel_rfl) ?_
      iterate 3 go_step
      refine wpList_store_new (W := w.alloc _) rfl _ _ _ rfl _ (w.heap.size + 1) (by simp) rfl rfl (by kernel_rfl) rfl (by kernel_rfl) ?_
      go_wp2
      refine bodyPost_ret (v := .tuple #[.agg #[.int .i64 0, .nilFunc], .bool false]) (by simp [results, Try.results118, go_sem]) rfl ?_
      exact ⟨by rw [HT.out, HD.out, HB.out], ((Below.refl _ _).alloc (Nat.le_refl _) _).alloc (by simp) _⟩
    · have h14 : 15 ≤ op := by omega
      clear h
      go_enter Try.func118, Try.ntmps118
      go_upto_region 1 with (fail)
      iterate 31 go_step
      refine wpList_run rfl (.agg #[.int .i64 0, .nilFunc, .int .i64 0, .nilFunc, .int .i64 0, .nilFunc, .int .i64 0, .nilFunc, .int .i64 0, .nilFunc, .int .i64 1, .func (.func 119) #[] #[], .int .i64 2, .func (.func 121) #[] #[], .int .i64 2, .func (.func 122) #[] #[], .int .i64 2, .func (.func 123) #[] #[], .int .i64 2, .func (.func 124) #[] #[], .int .i64 2, .func (.func 125) #[] #[], .int .i64 2, .func (.func 126) #[] #[], .int .i64 2, .func (.func 127) #[] #[], .int .i64 2, .func (.func 128) #[] #[], .int .i64 2, .func (.func 129) #[] #[]]) (by kernel_rfl) ?_
      iterate 3 go_step
      refine wpList_store_new (W := w.alloc _) rfl _ _ _ rfl _ (w.heap.size + 1) (by simp) rfl rfl (by kernel_rfl) rfl (by kernel_rfl) ?_
      go_wp2
      refine bodyPost_ret (v := .tuple #[.agg #[.int .i64 0, .nilFunc], .bool false]) (by simp [results, Try.results118, go_sem]) rfl ?_
      exact ⟨by rw [HT.out, HD.out, HB.out], ((Below.refl _ _).alloc (Nat.le_refl _) _).alloc (by simp) _⟩

end Go.Proofs.Ytaocgmkcjemecaa
