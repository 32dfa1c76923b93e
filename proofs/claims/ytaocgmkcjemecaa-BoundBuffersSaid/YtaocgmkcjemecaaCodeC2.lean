/- The program's operators. Parts of the proofs of the laws of layers 6 to 22. Conditions: none. -/
import Derived.Test.YtaocgmkcjemecaaCodeC0
namespace Go.Proofs.Ytaocgmkcjemecaa
open Go.RowKit
set_option linter.unusedVariables false
set_option linter.unusedSimpArgs false

set_option maxRecDepth 100000 in
set_option maxHeartbeats 2000000 in
theorem of_10 (w : World) : Calls Try.prog 118 #[.int .i64 10] w (OfPost 10 w) := by
  go_enter Try.func118, Try.ntmps118
  go_upto_region 1 with (fail)
  iterate 31 go_step
  refine wpList_run rfl (.agg #[.int .i64 0, .nilFunc, .int .i64 0, .nilFunc, .int .i64 0, .nilFunc, .int .i64 0, .nilFunc, .int .i64 0, .nilFunc, .int .i64 1, .func (.func 119) #[] #[], .int .i64 2, .func (.func 121) #[] #[], .int .i64 2, .func (.func 122) #[] #[], .int .i64 2, .func (.func 123) #[] #[], .int .i64 2, .func (.func 124) #[] #[], .int .i64 2, .func (.func 125) #[] #[], .int .i64 2, .func (.func 126) #[] #[], .int .i64 2, .func (.func 127) #[] #[], .int .i64 2, .func (.func 128) #[] #[], .int .i64 2, .func (.func 129) #[] #[]]) (by kernel_rfl) ?_
  iterate 3 go_step
  refine wpList_store_new (W := w.alloc _) rfl _ _ _ rfl _ (w.heap.size + 1) (by simp) rfl rfl (by kernel_rfl) rfl (by kernel_rfl) ?_
  go_wp2
  refine bodyPost_ret (v := .tuple #[.agg #[.int .i64 2, .func (.func 125) #[] #[]], .bool true]) (by simp [results, Try.results118, go_sem]) rfl ?_
  exact ⟨rfl, ((Below.refl _ _).alloc (Nat.le_refl _) _).alloc (by simp) _⟩

set_option maxRecDepth 100000 in
set_option maxHeartbeats 2000000 in
theorem of_11 (w : World) : Calls Try.prog 118 #[.int .i64 11] w (OfPost 11 w) := by
  go_enter Try.func118, Try.ntmps118
  go_upto_region 1 with (fail)
  iterate 31 go_step
  refine wpList_run rfl (.agg #[.int .i64 0, .nilFunc, .int .i64 0, .nilFunc, .int .i64 0, .nilFunc, .int .i64 0, .nilFunc, .int .i64 0, .nilFunc, .int .i64 1, .func (.func 119) #[] #[], .int .i64 2, .func (.func 121) #[] #[], .int .i64 2, .func (.func 122) #[] #[], .int .i64 2, .func (.func 123) #[] #[], .int .i64 2, .func (.func 124) #[] #[], .int .i64 2, .func (.func 125) #[] #[], .int .i64 2, .func (.func 126) #[] #[], .int .i64 2, .func (.func 127) #[] #[], .int .i64 2, .func (.func 128) #[] #[], .int .i64 2, .func (.func 129) #[] #[]]) (by kernel_rfl) ?_
  iterate 3 go_step
  refine wpList_store_new (W := w.alloc _) rfl _ _ _ rfl _ (w.heap.size + 1) (by simp) rfl rfl (by kernel_rfl) rfl (by kernel_rfl) ?_
  go_wp2
  refine bodyPost_ret (v := .tuple #[.agg #[.int .i64 2, .func (.func 126) #[] #[]], .bool true]) (by simp [results, Try.results118, go_sem]) rfl ?_
  exact ⟨rfl, ((Below.refl _ _).alloc (Nat.le_refl _) _).alloc (by simp) _⟩

set_option maxRecDepth 100000 in
set_option maxHeartbeats 2000000 in
theorem of_12 (w : World) : Calls Try.prog 118 #[.int .i64 12] w (OfPost 12 w) := by
  go_enter Try.func118, Try.ntmps118
  go_upto_region 1 with (fail)
  iterate 31 go_step
  refine wpList_run rfl (.agg #[.int .i64 0, .nilFunc, .int .i64 0, .nilFunc, .int .i64 0, .nilFunc, .int .i64 0, .nilFunc, .int .i64 0, .nilFunc, .int .i64 1, .func (.func 119) #[] #[], .int .i64 2, .func (.func 121) #[] #[], .int .i64 2, .func (.func 122) #[] #[], .int .i64 2, .func (.func 123) #[] #[], .int .i64 2, .func (.func 124) #[] #[], .int .i64 2, .func (.func 125) #[] #[], .int .i64 2, .func (.func 126) #[] #[], .int .i64 2, .func (.func 127) #[] #[], .int .i64 2, .func (.func 128) #[] #[], .int .i64 2, .func (.func 129) #[] #[]]) (by kernel_rfl) ?_
  iterate 3 go_step
  refine wpList_store_new (W := w.alloc _) rfl _ _ _ rfl _ (w.heap.size + 1) (by simp) rfl rfl (by kernel_rfl) rfl (by kernel_rfl) ?_
  go_wp2
  refine bodyPost_ret (v := .tuple #[.agg #[.int .i64 2, .func (.func 127) #[] #[]], .bool true]) (by simp [results, Try.results118, go_sem]) rfl ?_
  exact ⟨rfl, ((Below.refl _ _).alloc (Nat.le_refl _) _).alloc (by simp) _⟩

set_option maxRecDepth 100000 in
set_option maxHeartbeats 2000000 in
theorem of_13 (w : World) : Calls Try.prog 118 #[.int .i64 13] w (OfPost 13 w) := by
  go_enter Try.func118, Try.ntmps118
  go_upto_region 1 with (fail)
  iterate 31 go_step
  refine wpList_run rfl (.agg #[.int .i64 0, .nilFunc, .int .i64 0, .nilFunc, .int .i64 0, .nilFunc, .int .i64 0, .nilFunc, .int .i64 0, .nilFunc, .int .i64 1, .func (.func 119) #[] #[], .int .i64 2, .func (.func 121) #[] #[], .int .i64 2, .func (.func 122) #[] #[], .int .i64 2, .func (.func 123) #[] #[], .int .i64 2, .func (.func 124) #[] #[], .int .i64 2, .func (.func 125) #[] #[], .int .i64 2, .func (.func 126) #[] #[], .int .i64 2, .func (.func 127) #[] #[], .int .i64 2, .func (.func 128) #[] #[], .int .i64 2, .func (.func 129) #[] #[]]) (by kernel_rfl) ?_
  iterate 3 go_step
  refine wpList_store_new (W := w.alloc _) rfl _ _ _ rfl _ (w.heap.size + 1) (by simp) rfl rfl (by kernel_rfl) rfl (by kernel_rfl) ?_
  go_wp2
  refine bodyPost_ret (v := .tuple #[.agg #[.int .i64 2, .func (.func 128) #[] #[]], .bool true]) (by simp [results, Try.results118, go_sem]) rfl ?_
  exact ⟨rfl, ((Below.refl _ _).alloc (Nat.le_refl _) _).alloc (by simp) _⟩

set_option maxRecDepth 100000 in
set_option maxHeartbeats 2000000 in
theorem of_14 (w : World) : Calls Try.prog 118 #[.int .i64 14] w (OfPost 14 w) := by
  go_enter Try.func118, Try.ntmps118
  go_upto_region 1 with (fail)
  iterate 31 go_step
  refine wpList_run rfl (.agg #[.int .i64 0, .nilFunc, .int .i64 0, .nilFunc, .int .i64 0, .nilFunc, .int .i64 0, .nilFunc, .int .i64 0, .nilFunc, .int .i64 1, .func (.func 119) #[] #[], .int .i64 2, .func (.func 121) #[] #[], .int .i64 2, .func (.func 122) #[] #[], .int .i64 2, .func (.func 123) #[] #[], .int .i64 2, .func (.func 124) #[] #[], .int .i64 2, .func (.func 125) #[] #[], .int .i64 2, .func (.func 126) #[] #[], .int .i64 2, .func (.func 127) #[] #[], .int .i64 2, .func (.func 128) #[] #[], .int .i64 2, .func (.func 129) #[] #[]]) (by kernel_rfl) ?_
  iterate 3 go_step
  refine wpList_store_new (W := w.alloc _) rfl _ _ _ rfl _ (w.heap.size + 1) (by simp) rfl rfl (by kernel_rfl) rfl (by kernel_rfl) ?_
  go_wp2
  refine bodyPost_ret (v := .tuple #[.agg #[.int .i64 2, .func (.func 129) #[] #[]], .bool true]) (by simp [results, Try.results118, go_sem]) rfl ?_
  exact ⟨rfl, ((Below.refl _ _).alloc (Nat.le_refl _) _).alloc (by simp) _⟩

end Go.Proofs.Ytaocgmkcjemecaa
