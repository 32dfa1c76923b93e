/- The program's operators. Parts of the proofs of the laws of layers 6 to 22. Conditions: none. -/
import Derived.Test.YtaocgmkcjemecaaCodeA
import Derived.Laws.EntriesVeiled

section
namespace Go.Proofs.Ytaocgmkcjemecaa
open Go.RowKit
set_option linter.unusedVariables false
set_option linter.unusedSimpArgs false

def takesOf (op : Int) : Int := if op = 5 then 1 else if 6 ≤ op ∧ op ≤ 14 then 2 else 0
def doVal (op : Int) : Value :=
  if op = 5 then .func (.func 119) #[] #[]
  else if op = 6 then .func (.func 121) #[] #[]
  else if op = 7 then .func (.func 122) #[] #[]
  else if op = 8 then .func (.func 123) #[] #[]
  else if op = 9 then .func (.func 124) #[] #[]
  else if op = 10 then .func (.func 125) #[] #[]
  else if op = 11 then .func (.func 126) #[] #[]
  else if op = 12 then .func (.func 127) #[] #[]
  else if op = 13 then .func (.func 128) #[] #[]
  else if op = 14 then .func (.func 129) #[] #[]
  else .nilFunc

def OfPost (op : Int) (w : World) (e : Ending) (w' : World) : Prop := e = .returned (.tuple #[.agg #[.int .i64 (takesOf op), doVal op], .bool (decide (5 ≤ op ∧ op ≤ 14))]) ∧ Below w.heap.size w w'

end Go.Proofs.Ytaocgmkcjemecaa
end

/- The program's operators. Parts of the proofs of the laws of layers 6 to 22. Conditions: none. -/
section
namespace Go.Proofs.Ytaocgmkcjemecaa
open Go.RowKit
set_option linter.unusedVariables false
set_option linter.unusedSimpArgs false

set_option maxRecDepth 100000 in
set_option maxHeartbeats 2000000 in
theorem of_5 (w : World) : Calls Try.prog 118 #[.int .i64 5] w (OfPost 5 w) := by
  go_enter Try.func118, Try.ntmps118
  go_upto_region 1 with (fail)
  iterate 31 go_step
  refine wpList_run rfl (.agg #[.int .i64 0, .nilFunc, .int .i64 0, .nilFunc, .int .i64 0, .nilFunc, .int .i64 0, .nilFunc, .int .i64 0, .nilFunc, .int .i64 1, .func (.func 119) #[] #[], .int .i64 2, .func (.func 121) #[] #[], .int .i64 2, .func (.func 122) #[] #[], .int .i64 2, .func (.func 123) #[] #[], .int .i64 2, .func (.func 124) #[] #[], .int .i64 2, .func (.func 125) #[] #[], .int .i64 2, .func (.func 126) #[] #[], .int .i64 2, .func (.func 127) #[] #[], .int .i64 2, .func (.func 128) #[] #[], .int .i64 2, .func (.func 129) #[] #[]]) (by kernel_rfl) ?_
  iterate 3 go_step
  refine wpList_store_new (W := w.alloc _) rfl _ _ _ rfl _ (w.heap.size + 1) (by simp) rfl rfl (by kernel_rfl) rfl (by kernel_rfl) ?_
  go_wp2
  refine bodyPost_ret (v := .tuple #[.agg #[.int .i64 1, .func (.func 119) #[] #[]], .bool true]) (by simp [results, Try.results118, go_sem]) rfl ?_
  exact ⟨rfl, ((Below.refl _ _).alloc (Nat.le_refl _) _).alloc (by simp) _⟩

set_option maxRecDepth 100000 in
set_option maxHeartbeats 2000000 in
theorem of_6 (w : World) : Calls Try.prog 118 #[.int .i64 6] w (OfPost 6 w) := by
  go_enter Try.func118, Try.ntmps118
  go_upto_region 1 with (fail)
  iterate 31 go_step
  refine wpList_run rfl (.agg #[.int .i64 0, .nilFunc, .int .i64 0, .nilFunc, .int .i64 0, .nilFunc, .int .i64 0, .nilFunc, .int .i64 0, .nilFunc, .int .i64 1, .func (.func 119) #[] #[], .int .i64 2, .func (.func 121) #[] #[], .int .i64 2, .func (.func 122) #[] #[], .int .i64 2, .func (.func 123) #[] #[], .int .i64 2, .func (.func 124) #[] #[], .int .i64 2, .func (.func 125) #[] #[], .int .i64 2, .func (.func 126) #[] #[], .int .i64 2, .func (.func 127) #[] #[], .int .i64 2, .func (.func 128) #[] #[], .int .i64 2, .func (.func 129) #[] #[]]) (by kernel_rfl) ?_
  iterate 3 go_step
  refine wpList_store_new (W := w.alloc _) rfl _ _ _ rfl _ (w.heap.size + 1) (by simp) rfl rfl (by kernel_rfl) rfl (by kernel_rfl) ?_
  go_wp2
  refine bodyPost_ret (v := .tuple #[.agg #[.int .i64 2, .func (.func 121) #[] #[]], .bool true]) (by simp [results, Try.results118, go_sem]) rfl ?_
  exact ⟨rfl, ((Below.refl _ _).alloc (Nat.le_refl _) _).alloc (by simp) _⟩

set_option maxRecDepth 100000 in
set_option maxHeartbeats 2000000 in
theorem of_7 (w : World) : Calls Try.prog 118 #[.int .i64 7] w (OfPost 7 w) := by
  go_enter Try.func118, Try.ntmps118
  go_upto_region 1 with (fail)
  iterate 31 go_step
  refine wpList_run rfl (.agg #[.int .i64 0, .nilFunc, .int .i64 0, .nilFunc, .int .i64 0, .nilFunc, .int .i64 0, .nilFunc, .int .i64 0, .nilFunc, .int .i64 1, .func (.func 119) #[] #[], .int .i64 2, .func (.func 121) #[] #[], .int .i64 2, .func (.func 122) #[] #[], .int .i64 2, .func (.func 123) #[] #[], .int .i64 2, .func (.func 124) #[] #[], .int .i64 2, .func (.func 125) #[] #[], .int .i64 2, .func (.func 126) #[] #[], .int .i64 2, .func (.func 127) #[] #[], .int .i64 2, .func (.func 128) #[] #[], .int .i64 2, .func (.func 129) #[] #[]]) (by kernel_rfl) ?_
  iterate 3 go_step
  refine wpList_store_new (W := w.alloc _) rfl _ _ _ rfl _ (w.heap.size + 1) (by simp) rfl rfl (by kernel_rfl) rfl (by kernel_rfl) ?_
  go_wp2
  refine bodyPost_ret (v := .tuple #[.agg #[.int .i64 2, .func (.func 122) #[] #[]], .bool true]) (by simp [results, Try.results118, go_sem]) rfl ?_
  exact ⟨rfl, ((Below.refl _ _).alloc (Nat.le_refl _) _).alloc (by simp) _⟩

set_option maxRecDepth 100000 in
set_option maxHeartbeats 2000000 in
theorem of_8 (w : World) : Calls Try.prog 118 #[.int .i64 8] w (OfPost 8 w) := by
  go_enter Try.func118, Try.ntmps118
  go_upto_region 1 with (fail)
  iterate 31 go_step
  refine wpList_run rfl (.agg #[.int .i64 0, .nilFunc, .int .i64 0, .nilFunc, .int .i64 0, .nilFunc, .int .i64 0, .nilFunc, .int .i64 0, .nilFunc, .int .i64 1, .func (.func 119) #[] #[], .int .i64 2, .func (.func 121) #[] #[], .int .i64 2, .func (.func 122) #[] #[], .int .i64 2, .func (.func 123) #[] #[], .int .i64 2, .func (.func 124) #[] #[], .int .i64 2, .func (.func 125) #[] #[], .int .i64 2, .func (.func 126) #[] #[], .int .i64 2, .func (.func 127) #[] #[], .int .i64 2, .func (.func 128) #[] #[], .int .i64 2, .func (.func 129) #[] #[]]) (by kernel_rfl) ?_
  iterate 3 go_step
  refine wpList_store_new (W := w.alloc _) rfl _ _ _ rfl _ (w.heap.size + 1) (by simp) rfl rfl (by kernel_rfl) rfl (by kernel_rfl) ?_
  go_wp2
  refine bodyPost_ret (v := .tuple #[.agg #[.int .i64 2, .func (.func 123) #[] #[]], .bool true]) (by simp [results, Try.results118, go_sem]) rfl ?_
  exact ⟨rfl, ((Below.refl _ _).alloc (Nat.le_refl _) _).alloc (by simp) _⟩

set_option maxRecDepth 100000 in
set_option maxHeartbeats 2000000 in
theorem of_9 (w : World) : Calls Try.prog 118 #[.int .i64 9] w (OfPost 9 w) := by
  go_enter Try.func118, Try.ntmps118
  go_upto_region 1 with (fail)
  iterate 31 go_step
  refine wpList_run rfl (.agg #[.int .i64 0, .nilFunc, .int .i64 0, .nilFunc, .int .i64 0, .nilFunc, .int .i64 0, .nilFunc, .int .i64 0, .nilFunc, .int .i64 1, .func (.func 119) #[] #[], .int .i64 2, .func (.func 121) #[] #[], .int .i64 2, .func (.func 122) #[] #[], .int .i64 2, .func (.func 123) #[] #[], .int .i64 2, .func (.func 124) #[] #[], .int .i64 2, .func (.func 125) #[] #[], .int .i64 2, .func (.func 126) #[] #[], .int .i64 2, .func (.func 127) #[] #[], .int .i64 2, .func (.func 128) #[] #[], .int .i64 2, .func (.func 129) #[] #[]]) (by kernel_rfl) ?_
  iterate 3 go_step
  refine wpList_store_new (W := w.alloc _) rfl _ _ _ rfl _ (w.heap.size + 1) (by simp) rfl rfl (by kernel_rfl) rfl (by kernel_rfl) ?_
  go_wp2
  refine bodyPost_ret (v := .tuple #[.agg #[.int .i64 2, .func (.func 124) #[] #[]], .bool true]) (by simp [results, Try.results118, go_sem]) rfl ?_
  exact ⟨rfl, ((Below.refl _ _).alloc (Nat.le_refl _) _).alloc (by simp) _⟩

end Go.Proofs.Ytaocgmkcjemecaa
end

/- The program's operators. Parts of the proofs of the laws of layers 6 to 22. Conditions: none. -/
section
namespace Go.Proofs.Ytaocgmkcjemecaa
open Go.RowKit
set_option linter.unusedVariables false
set_option linter.unusedSimpArgs false

set_option maxRecDepth 100000 in
set_option maxHeartbeats 2000000 in
theorem of_10 (w : World) : Calls Try.prog 118 #[.int .i64 10] w (OfPost 10 w) := by
  go_enter Try.func118, Try.ntmps118
  go_upto_region 1 with (fail)
  iterate 31 go_step
  refine wpList_run rfl (.agg #[.int .i64 0, .nilFunc, .int .i64 0, .nilFunc, .int .i64 0, .nilFunc, .int .i64 0, .nilFunc, .int .i64 0, .nilFunc, .int .i64 1, .func (.func 119) #[] #[], .int .i64 2, .func (.func 121) #[] #[], .int .i64 2, .func (.func 122) #[] #[], .int .i64 2, .func (.func 123) #[] #[], .int .i64 2, .func (.func 124) #[] #[], .int .i64 2, .func (.func 125) #[] #[], .int .i64 2, .func (.func 126) #[] #[], .int .i64 2, .func (.func 127) #[] #[], .int .i64 2, .func (.func 128) #[] #[], .int .i64 2, .func (.func 129) #[] #[]]) (by kernel_rfl) ?_
  iterate 3 go_step
  refine wpList_store_new (W := w.alloc _) rfl _ _ _ rfl _ (w.heap.size + 1) (by simp) rfl rfl (by kernel_rfl) rfl (by kernel_rfl) ?_
  go_wp2
  refine bodyPost_ret (v := .tuple #[.agg #[.int .i64 2, .func (.func 125) #[] #[]], .bool true]) (by simp [results, Try.results118, go_sem]) rfl ?_
  exact ⟨rfl, ((Below.refl _ _).alloc (Nat.le_refl _) _).alloc (by simp) _⟩

set_option maxRecDepth 100000 in
set_option maxHeartbeats 2000000 in
theorem of_11 (w : World) : Calls Try.prog 118 #[.int .i64 11] w (OfPost 11 w) := by
  go_enter Try.func118, Try.ntmps118
  go_upto_region 1 with (fail)
  iterate 31 go_step
  refine wpList_run rfl (.agg #[.int .i64 0, .nilFunc, .int .i64 0, .nilFunc, .int .i64 0, .nilFunc, .int .i64 0, .nilFunc, .int .i64 0, .nilFunc, .int .i64 1, .func (.func 119) #[] #[], .int .i64 2, .func (.func 121) #[] #[], .int .i64 2, .func (.func 122) #[] #[], .int .i64 2, .func (.func 123) #[] #[], .int .i64 2, .func (.func 124) #[] #[], .int .i64 2, .func (.func 125) #[] #[], .int .i64 2, .func (.func 126) #[] #[], .int .i64 2, .func (.func 127) #[] #[], .int .i64 2, .func (.func 128) #[] #[], .int .i64 2, .func (.func 129) #[] #[]]) (by kernel_rfl) ?_
  iterate 3 go_step
  refine wpList_store_new (W := w.alloc _) rfl _ _ _ rfl _ (w.heap.size + 1) (by simp) rfl rfl (by kernel_rfl) rfl (by kernel_rfl) ?_
  go_wp2
  refine bodyPost_ret (v := .tuple #[.agg #[.int .i64 2, .func (.func 126) #[] #[]], .bool true]) (by simp [results, Try.results118, go_sem]) rfl ?_
  exact ⟨rfl, ((Below.refl _ _).alloc (Nat.le_refl _) _).alloc (by simp) _⟩

set_option maxRecDepth 100000 in
set_option maxHeartbeats 2000000 in
theorem of_12 (w : World) : Calls Try.prog 118 #[.int .i64 12] w (OfPost 12 w) := by
  go_enter Try.func118, Try.ntmps118
  go_upto_region 1 with (fail)
  iterate 31 go_step
  refine wpList_run rfl (.agg #[.int .i64 0, .nilFunc, .int .i64 0, .nilFunc, .int .i64 0, .nilFunc, .int .i64 0, .nilFunc, .int .i64 0, .nilFunc, .int .i64 1, .func (.func 119) #[] #[], .int .i64 2, .func (.func 121) #[] #[], .int .i64 2, .func (.func 122) #[] #[], .int .i64 2, .func (.func 123) #[] #[], .int .i64 2, .func (.func 124) #[] #[], .int .i64 2, .func (.func 125) #[] #[], .int .i64 2, .func (.func 126) #[] #[], .int .i64 2, .func (.func 127) #[] #[], .int .i64 2, .func (.func 128) #[] #[], .int .i64 2, .func (.func 129) #[] #[]]) (by kernel_rfl) ?_
  iterate 3 go_step
  refine wpList_store_new (W := w.alloc _) rfl _ _ _ rfl _ (w.heap.size + 1) (by simp) rfl rfl (by kernel_rfl) rfl (by kernel_rfl) ?_
  go_wp2
  refine bodyPost_ret (v := .tuple #[.agg #[.int .i64 2, .func (.func 127) #[] #[]], .bool true]) (by simp [results, Try.results118, go_sem]) rfl ?_
  exact ⟨rfl, ((Below.refl _ _).alloc (Nat.le_refl _) _).alloc (by simp) _⟩

set_option maxRecDepth 100000 in
set_option maxHeartbeats 2000000 in
theorem of_13 (w : World) : Calls Try.prog 118 #[.int .i64 13] w (OfPost 13 w) := by
  go_enter Try.func118, Try.ntmps118
  go_upto_region 1 with (fail)
  iterate 31 go_step
  refine wpList_run rfl (.agg #[.int .i64 0, .nilFunc, .int .i64 0, .nilFunc, .int .i64 0, .nilFunc, .int .i64 0, .nilFunc, .int .i64 0, .nilFunc, .int .i64 1, .func (.func 119) #[] #[], .int .i64 2, .func (.func 121) #[] #[], .int .i64 2, .func (.func 122) #[] #[], .int .i64 2, .func (.func 123) #[] #[], .int .i64 2, .func (.func 124) #[] #[], .int .i64 2, .func (.func 125) #[] #[], .int .i64 2, .func (.func 126) #[] #[], .int .i64 2, .func (.func 127) #[] #[], .int .i64 2, .func (.func 128) #[] #[], .int .i64 2, .func (.func 129) #[] #[]]) (by kernel_rfl) ?_
  iterate 3 go_step
  refine wpList_store_new (W := w.alloc _) rfl _ _ _ rfl _ (w.heap.size + 1) (by simp) rfl rfl (by kernel_rfl) rfl (by kernel_rfl) ?_
  go_wp2
  refine bodyPost_ret (v := .tuple #[.agg #[.int .i64 2, .func (.func 128) #[] #[]], .bool true]) (by simp [results, Try.results118, go_sem]) rfl ?_
  exact ⟨rfl, ((Below.refl _ _).alloc (Nat.le_refl _) _).alloc (by simp) _⟩

set_option maxRecDepth 100000 in
set_option maxHeartbeats 2000000 in
theorem of_14 (w : World) : Calls Try.prog 118 #[.int .i64 14] w (OfPost 14 w) := by
  go_enter Try.func118, Try.ntmps118
  go_upto_region 1 with (fail)
  iterate 31 go_step
  refine wpList_run rfl (.agg #[.int .i64 0, .nilFunc, .int .i64 0, .nilFunc, .int .i64 0, .nilFunc, .int .i64 0, .nilFunc, .int .i64 0, .nilFunc, .int .i64 1, .func (.func 119) #[] #[], .int .i64 2, .func (.func 121) #[] #[], .int .i64 2, .func (.func 122) #[] #[], .int .i64 2, .func (.func 123) #[] #[], .int .i64 2, .func (.func 124) #[] #[], .int .i64 2, .func (.func 125) #[] #[], .int .i64 2, .func (.func 126) #[] #[], .int .i64 2, .func (.func 127) #[] #[], .int .i64 2, .func (.func 128) #[] #[], .int .i64 2, .func (.func 129) #[] #[]]) (by kernel_rfl) ?_
  iterate 3 go_step
  refine wpList_store_new (W := w.alloc _) rfl _ _ _ rfl _ (w.heap.size + 1) (by simp) rfl rfl (by kernel_rfl) rfl (by kernel_rfl) ?_
  go_wp2
  refine bodyPost_ret (v := .tuple #[.agg #[.int .i64 2, .func (.func 129) #[] #[]], .bool true]) (by simp [results, Try.results118, go_sem]) rfl ?_
  exact ⟨rfl, ((Below.refl _ _).alloc (Nat.le_refl _) _).alloc (by simp) _⟩

end Go.Proofs.Ytaocgmkcjemecaa
end
