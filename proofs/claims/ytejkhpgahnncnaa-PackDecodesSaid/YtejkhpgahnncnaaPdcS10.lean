/- Parts of the proofs: what they lean on. Conditions: none. -/
import Derived.Laws.EntriesVeiled
import Derived.Test.YtejkhpgahnncnaaPdcS9
section
namespace Go.Proofs.Ytejkhpgahnncnaa
open Go.RowKit
set_option linter.unusedVariables false
set_option linter.unusedSimpArgs false

def takesOf (op : Int) : Int := if op = 5 then 1 else if 6 ≤ op ∧ op ≤ 14 then 2 else 0
def doVal (op : Int) : Value :=
  if op = 5 then .func (.func 73) #[] #[]
  else if op = 6 then .func (.func 75) #[] #[]
  else if op = 7 then .func (.func 76) #[] #[]
  else if op = 8 then .func (.func 77) #[] #[]
  else if op = 9 then .func (.func 78) #[] #[]
  else if op = 10 then .func (.func 79) #[] #[]
  else if op = 11 then .func (.func 80) #[] #[]
  else if op = 12 then .func (.func 81) #[] #[]
  else if op = 13 then .func (.func 82) #[] #[]
  else if op = 14 then .func (.func 83) #[] #[]
  else .nilFunc

def OfPost (op : Int) (w : World) (e : Ending) (w' : World) : Prop := e = .returned (.tuple #[.agg #[.int .i64 (takesOf op), doVal op], .bool (decide (5 ≤ op ∧ op ≤ 14))]) ∧ Below w.heap.size w w'

end Go.Proofs.Ytejkhpgahnncnaa
end

section
namespace Go.Proofs.Ytejkhpgahnncnaa
open Go.RowKit
set_option linter.unusedVariables false
set_option linter.unusedSimpArgs false

set_option maxRecDepth 100000 in
set_option maxHeartbeats 2000000 in
theorem of_5 (w : World) : Calls Try.prog 72 #[.int .i64 5] w (OfPost 5 w) := by
  go_enter Try.func72, Try.ntmps72
  go_upto_region 1 with (fail)
  iterate 31 go_step
  refine wpList_run rfl (.agg #[.int .i64 0, .nilFunc, .int .i64 0, .nilFunc, .int .i64 0, .nilFunc, .int .i64 0, .nilFunc, .int .i64 0, .nilFunc, .int .i64 1, .func (.func 73) #[] #[], .int .i64 2, .func (.func 75) #[] #[], .int .i64 2, .func (.func 76) #[] #[], .int .i64 2, .func (.func 77) #[] #[], .int .i64 2, .func (.func 78) #[] #[], .int .i64 2, .func (.func 79) #[] #[], .int .i64 2, .func (.func 80) #[] #[], .int .i64 2, .func (.func 81) #[] #[], .int .i64 2, .func (.func 82) #[] #[], .int .i64 2, .func (.func 83) #[] #[]]) (by kernel_rfl) ?_
  iterate 3 go_step
  refine wpList_store_new (W := w.alloc _) rfl _ _ _ rfl _ (w.heap.size + 1) (by simp) rfl rfl (by kernel_rfl) rfl (by kernel_rfl) ?_
  go_wp2
  refine bodyPost_ret (v := .tuple #[.agg #[.int .i64 1, .func (.func 73) #[] #[]], .bool true]) (by simp [results, Try.results72, go_sem]) rfl ?_
  exact ⟨rfl, ((Below.refl _ _).alloc (Nat.le_refl _) _).alloc (by simp) _⟩

set_option maxRecDepth 100000 in
set_option maxHeartbeats 2000000 in
theorem of_6 (w : World) : Calls Try.prog 72 #[.int .i64 6] w (OfPost 6 w) := by
  go_enter Try.func72, Try.ntmps72
  go_upto_region 1 with (fail)
  iterate 31 go_step
  refine wpList_run rfl (.agg #[.int .i64 0, .nilFunc, .int .i64 0, .nilFunc, .int .i64 0, .nilFunc, .int .i64 0, .nilFunc, .int .i64 0, .nilFunc, .int .i64 1, .func (.func 73) #[] #[], .int .i64 2, .func (.func 75) #[] #[], .int .i64 2, .func (.func 76) #[] #[], .int .i64 2, .func (.func 77) #[] #[], .int .i64 2, .func (.func 78) #[] #[], .int .i64 2, .func (.func 79) #[] #[], .int .i64 2, .func (.func 80) #[] #[], .int .i64 2, .func (.func 81) #[] #[], .int .i64 2, .func (.func 82) #[] #[], .int .i64 2, .func (.func 83) #[] #[]]) (by kernel_rfl) ?_
  iterate 3 go_step
  refine wpList_store_new (W := w.alloc _) rfl _ _ _ rfl _ (w.heap.size + 1) (by simp) rfl rfl (by kernel_rfl) rfl (by kernel_rfl) ?_
  go_wp2
  refine bodyPost_ret (v := .tuple #[.agg #[.int .i64 2, .func (.func 75) #[] #[]], .bool true]) (by simp [results, Try.results72, go_sem]) rfl ?_
  exact ⟨rfl, ((Below.refl _ _).alloc (Nat.le_refl _) _).alloc (by simp) _⟩

set_option maxRecDepth 100000 in
set_option maxHeartbeats 2000000 in
theorem of_7 (w : World) : Calls Try.prog 72 #[.int .i64 7] w (OfPost 7 w) := by
  go_enter Try.func72, Try.ntmps72
  go_upto_region 1 with (fail)
  iterate 31 go_step
  refine wpList_run rfl (.agg #[.int .i64 0, .nilFunc, .int .i64 0, .nilFunc, .int .i64 0, .nilFunc, .int .i64 0, .nilFunc, .int .i64 0, .nilFunc, .int .i64 1, .func (.func 73) #[] #[], .int .i64 2, .func (.func 75) #[] #[], .int .i64 2, .func (.func 76) #[] #[], .int .i64 2, .func (.func 77) #[] #[], .int .i64 2, .func (.func 78) #[] #[], .int .i64 2, .func (.func 79) #[] #[], .int .i64 2, .func (.func 80) #[] #[], .int .i64 2, .func (.func 81) #[] #[], .int .i64 2, .func (.func 82) #[] #[], .int .i64 2, .func (.func 83) #[] #[]]) (by kernel_rfl) ?_
  iterate 3 go_step
  refine wpList_store_new (W := w.alloc _) rfl _ _ _ rfl _ (w.heap.size + 1) (by simp) rfl rfl (by kernel_rfl) rfl (by kernel_rfl) ?_
  go_wp2
  refine bodyPost_ret (v := .tuple #[.agg #[.int .i64 2, .func (.func 76) #[] #[]], .bool true]) (by simp [results, Try.results72, go_sem]) rfl ?_
  exact ⟨rfl, ((Below.refl _ _).alloc (Nat.le_refl _) _).alloc (by simp) _⟩

set_option maxRecDepth 100000 in
set_option maxHeartbeats 2000000 in
theorem of_8 (w : World) : Calls Try.prog 72 #[.int .i64 8] w (OfPost 8 w) := by
  go_enter Try.func72, Try.ntmps72
  go_upto_region 1 with (fail)
  iterate 31 go_step
  refine wpList_run rfl (.agg #[.int .i64 0, .nilFunc, .int .i64 0, .nilFunc, .int .i64 0, .nilFunc, .int .i64 0, .nilFunc, .int .i64 0, .nilFunc, .int .i64 1, .func (.func 73) #[] #[], .int .i64 2, .func (.func 75) #[] #[], .int .i64 2, .func (.func 76) #[] #[], .int .i64 2, .func (.func 77) #[] #[], .int .i64 2, .func (.func 78) #[] #[], .int .i64 2, .func (.func 79) #[] #[], .int .i64 2, .func (.func 80) #[] #[], .int .i64 2, .func (.func 81) #[] #[], .int .i64 2, .func (.func 82) #[] #[], .int .i64 2, .func (.func 83) #[] #[]]) (by kernel_rfl) ?_
  iterate 3 go_step
  refine wpList_store_new (W := w.alloc _) rfl _ _ _ rfl _ (w.heap.size + 1) (by simp) rfl rfl (by kernel_rfl) rfl (by kernel_rfl) ?_
  go_wp2
  refine bodyPost_ret (v := .tuple #[.agg #[.int .i64 2, .func (.func 77) #[] #[]], .bool true]) (by simp [results, Try.results72, go_sem]) rfl ?_
  exact ⟨rfl, ((Below.refl _ _).alloc (Nat.le_refl _) _).alloc (by simp) _⟩

set_option maxRecDepth 100000 in
set_option maxHeartbeats 2000000 in
theorem of_9 (w : World) : Calls Try.prog 72 #[.int .i64 9] w (OfPost 9 w) := by
  go_enter Try.func72, Try.ntmps72
  go_upto_region 1 with (fail)
  iterate 31 go_step
  refine wpList_run rfl (.agg #[.int .i64 0, .nilFunc, .int .i64 0, .nilFunc, .int .i64 0, .nilFunc, .int .i64 0, .nilFunc, .int .i64 0, .nilFunc, .int .i64 1, .func (.func 73) #[] #[], .int .i64 2, .func (.func 75) #[] #[], .int .i64 2, .func (.func 76) #[] #[], .int .i64 2, .func (.func 77) #[] #[], .int .i64 2, .func (.func 78) #[] #[], .int .i64 2, .func (.func 79) #[] #[], .int .i64 2, .func (.func 80) #[] #[], .int .i64 2, .func (.func 81) #[] #[], .int .i64 2, .func (.func 82) #[] #[], .int .i64 2, .func (.func 83) #[] #[]]) (by kernel_rfl) ?_
  iterate 3 go_step
  refine wpList_store_new (W := w.alloc _) rfl _ _ _ rfl _ (w.heap.size + 1) (by simp) rfl rfl (by kernel_rfl) rfl (by kernel_rfl) ?_
  go_wp2
  refine bodyPost_ret (v := .tuple #[.agg #[.int .i64 2, .func (.func 78) #[] #[]], .bool true]) (by simp [results, Try.results72, go_sem]) rfl ?_
  exact ⟨rfl, ((Below.refl _ _).alloc (Nat.le_refl _) _).alloc (by simp) _⟩

end Go.Proofs.Ytejkhpgahnncnaa
end

section
namespace Go.Proofs.Ytejkhpgahnncnaa
open Go.RowKit
set_option linter.unusedVariables false
set_option linter.unusedSimpArgs false

set_option maxRecDepth 100000 in
set_option maxHeartbeats 2000000 in
theorem of_10 (w : World) : Calls Try.prog 72 #[.int .i64 10] w (OfPost 10 w) := by
  go_enter Try.func72, Try.ntmps72
  go_upto_region 1 with (fail)
  iterate 31 go_step
  refine wpList_run rfl (.agg #[.int .i64 0, .nilFunc, .int .i64 0, .nilFunc, .int .i64 0, .nilFunc, .int .i64 0, .nilFunc, .int .i64 0, .nilFunc, .int .i64 1, .func (.func 73) #[] #[], .int .i64 2, .func (.func 75) #[] #[], .int .i64 2, .func (.func 76) #[] #[], .int .i64 2, .func (.func 77) #[] #[], .int .i64 2, .func (.func 78) #[] #[], .int .i64 2, .func (.func 79) #[] #[], .int .i64 2, .func (.func 80) #[] #[], .int .i64 2, .func (.func 81) #[] #[], .int .i64 2, .func (.func 82) #[] #[], .int .i64 2, .func (.func 83) #[] #[]]) (by kernel_rfl) ?_
  iterate 3 go_step
  refine wpList_store_new (W := w.alloc _) rfl _ _ _ rfl _ (w.heap.size + 1) (by simp) rfl rfl (by kernel_rfl) rfl (by kernel_rfl) ?_
  go_wp2
  refine bodyPost_ret (v := .tuple #[.agg #[.int .i64 2, .func (.func 79) #[] #[]], .bool true]) (by simp [results, Try.results72, go_sem]) rfl ?_
  exact ⟨rfl, ((Below.refl _ _).alloc (Nat.le_refl _) _).alloc (by simp) _⟩

set_option maxRecDepth 100000 in
set_option maxHeartbeats 2000000 in
theorem of_11 (w : World) : Calls Try.prog 72 #[.int .i64 11] w (OfPost 11 w) := by
  go_enter Try.func72, Try.ntmps72
  go_upto_region 1 with (fail)
  iterate 31 go_step
  refine wpList_run rfl (.agg #[.int .i64 0, .nilFunc, .int .i64 0, .nilFunc, .int .i64 0, .nilFunc, .int .i64 0, .nilFunc, .int .i64 0, .nilFunc, .int .i64 1, .func (.func 73) #[] #[], .int .i64 2, .func (.func 75) #[] #[], .int .i64 2, .func (.func 76) #[] #[], .int .i64 2, .func (.func 77) #[] #[], .int .i64 2, .func (.func 78) #[] #[], .int .i64 2, .func (.func 79) #[] #[], .int .i64 2, .func (.func 80) #[] #[], .int .i64 2, .func (.func 81) #[] #[], .int .i64 2, .func (.func 82) #[] #[], .int .i64 2, .func (.func 83) #[] #[]]) (by kernel_rfl) ?_
  iterate 3 go_step
  refine wpList_store_new (W := w.alloc _) rfl _ _ _ rfl _ (w.heap.size + 1) (by simp) rfl rfl (by kernel_rfl) rfl (by kernel_rfl) ?_
  go_wp2
  refine bodyPost_ret (v := .tuple #[.agg #[.int .i64 2, .func (.func 80) #[] #[]], .bool true]) (by simp [results, Try.results72, go_sem]) rfl ?_
  exact ⟨rfl, ((Below.refl _ _).alloc (Nat.le_refl _) _).alloc (by simp) _⟩

set_option maxRecDepth 100000 in
set_option maxHeartbeats 2000000 in
theorem of_12 (w : World) : Calls Try.prog 72 #[.int .i64 12] w (OfPost 12 w) := by
  go_enter Try.func72, Try.ntmps72
  go_upto_region 1 with (fail)
  iterate 31 go_step
  refine wpList_run rfl (.agg #[.int .i64 0, .nilFunc, .int .i64 0, .nilFunc, .int .i64 0, .nilFunc, .int .i64 0, .nilFunc, .int .i64 0, .nilFunc, .int .i64 1, .func (.func 73) #[] #[], .int .i64 2, .func (.func 75) #[] #[], .int .i64 2, .func (.func 76) #[] #[], .int .i64 2, .func (.func 77) #[] #[], .int .i64 2, .func (.func 78) #[] #[], .int .i64 2, .func (.func 79) #[] #[], .int .i64 2, .func (.func 80) #[] #[], .int .i64 2, .func (.func 81) #[] #[], .int .i64 2, .func (.func 82) #[] #[], .int .i64 2, .func (.func 83) #[] #[]]) (by kernel_rfl) ?_
  iterate 3 go_step
  refine wpList_store_new (W := w.alloc _) rfl _ _ _ rfl _ (w.heap.size + 1) (by simp) rfl rfl (by kernel_rfl) rfl (by kernel_rfl) ?_
  go_wp2
  refine bodyPost_ret (v := .tuple #[.agg #[.int .i64 2, .func (.func 81) #[] #[]], .bool true]) (by simp [results, Try.results72, go_sem]) rfl ?_
  exact ⟨rfl, ((Below.refl _ _).alloc (Nat.le_refl _) _).alloc (by simp) _⟩

set_option maxRecDepth 100000 in
set_option maxHeartbeats 2000000 in
theorem of_13 (w : World) : Calls Try.prog 72 #[.int .i64 13] w (OfPost 13 w) := by
  go_enter Try.func72, Try.ntmps72
  go_upto_region 1 with (fail)
  iterate 31 go_step
  refine wpList_run rfl (.agg #[.int .i64 0, .nilFunc, .int .i64 0, .nilFunc, .int .i64 0, .nilFunc, .int .i64 0, .nilFunc, .int .i64 0, .nilFunc, .int .i64 1, .func (.func 73) #[] #[], .int .i64 2, .func (.func 75) #[] #[], .int .i64 2, .func (.func 76) #[] #[], .int .i64 2, .func (.func 77) #[] #[], .int .i64 2, .func (.func 78) #[] #[], .int .i64 2, .func (.func 79) #[] #[], .int .i64 2, .func (.func 80) #[] #[], .int .i64 2, .func (.func 81) #[] #[], .int .i64 2, .func (.func 82) #[] #[], .int .i64 2, .func (.func 83) #[] #[]]) (by kernel_rfl) ?_
  iterate 3 go_step
  refine wpList_store_new (W := w.alloc _) rfl _ _ _ rfl _ (w.heap.size + 1) (by simp) rfl rfl (by kernel_rfl) rfl (by kernel_rfl) ?_
  go_wp2
  refine bodyPost_ret (v := .tuple #[.agg #[.int .i64 2, .func (.func 82) #[] #[]], .bool true]) (by simp [results, Try.results72, go_sem]) rfl ?_
  exact ⟨rfl, ((Below.refl _ _).alloc (Nat.le_refl _) _).alloc (by simp) _⟩

set_option maxRecDepth 100000 in
set_option maxHeartbeats 2000000 in
theorem of_14 (w : World) : Calls Try.prog 72 #[.int .i64 14] w (OfPost 14 w) := by
  go_enter Try.func72, Try.ntmps72
  go_upto_region 1 with (fail)
  iterate 31 go_step
  refine wpList_run rfl (.agg #[.int .i64 0, .nilFunc, .int .i64 0, .nilFunc, .int .i64 0, .nilFunc, .int .i64 0, .nilFunc, .int .i64 0, .nilFunc, .int .i64 1, .func (.func 73) #[] #[], .int .i64 2, .func (.func 75) #[] #[], .int .i64 2, .func (.func 76) #[] #[], .int .i64 2, .func (.func 77) #[] #[], .int .i64 2, .func (.func 78) #[] #[], .int .i64 2, .func (.func 79) #[] #[], .int .i64 2, .func (.func 80) #[] #[], .int .i64 2, .func (.func 81) #[] #[], .int .i64 2, .func (.func 82) #[] #[], .int .i64 2, .func (.func 83) #[] #[]]) (by kernel_rfl) ?_
  iterate 3 go_step
  refine wpList_store_new (W := w.alloc _) rfl _ _ _ rfl _ (w.heap.size + 1) (by simp) rfl rfl (by kernel_rfl) rfl (by kernel_rfl) ?_
  go_wp2
  refine bodyPost_ret (v := .tuple #[.agg #[.int .i64 2, .func (.func 83) #[] #[]], .bool true]) (by simp [results, Try.results72, go_sem]) rfl ?_
  exact ⟨rfl, ((Below.refl _ _).alloc (Nat.le_refl _) _).alloc (by simp) _⟩

end Go.Proofs.Ytejkhpgahnncnaa
end

section
namespace Go.Proofs.Ytejkhpgahnncnaa
open Go.RowKit
set_option linter.unusedVariables false
set_option linter.unusedSimpArgs false

set_option maxRecDepth 100000 in
set_option maxHeartbeats 4000000 in
theorem of_any (op : Int) (w : World) : Calls Try.prog 72 #[.int .i64 op] w (OfPost op w) := by
  by_cases h : 5 ≤ op ∧ op ≤ 14
  · have hc : op = 5 ∨ op = 6 ∨ op = 7 ∨ op = 8 ∨ op = 9 ∨ op = 10 ∨ op = 11 ∨ op = 12 ∨ op = 13 ∨ op = 14 := by omega
    clear h
    rcases hc with rfl | rfl | rfl | rfl | rfl | rfl | rfl | rfl | rfl | rfl
    all_goals first | exact of_5 w | exact of_6 w | exact of_7 w | exact of_8 w | exact of_9 w | exact of_10 w | exact of_11 w | exact of_12 w | exact of_13 w | exact of_14 w
  · have ht : takesOf op = 0 := by simp only [takesOf]; rw [if_neg (by omega), if_neg (by omega)]
    have hd : doVal op = .nilFunc := by
      simp only [doVal]
      repeat rw [if_neg (by omega)]
    have hb : decide (5 ≤ op ∧ op ≤ 14) = false := decide_eq_false h
    have HT := Lib.hid ht; have HD := Lib.hid hd; have HB := Lib.hid hb
    clear ht hd hb
    by_cases h5 : op < 5
    · clear h
      go_enter Try.func72, Try.ntmps72
      go_upto_region 1 with (fail)
      iterate 31 go_step
      refine wpList_run rfl (.agg #[.int .i64 0, .nilFunc, .int .i64 0, .nilFunc, .int .i64 0, .nilFunc, .int .i64 0, .nilFunc, .int .i64 0, .nilFunc, .int .i64 1, .func (.func 73) #[] #[], .int .i64 2, .func (.func 75) #[] #[], .int .i64 2, .func (.func 76) #[] #[], .int .i64 2, .func (.func 77) #[] #[], .int .i64 2, .func (.func 78) #[] #[], .int .i64 2, .func (.func 79) #[] #[], .int .i64 2, .func (.func 80) #[] #[], .int .i64 2, .func (.func 81) #[] #[], .int .i64 2, .func (.func 82) #[] #[], .int .i64 2, .func (.func 83) #[] #[]]) (by kernel_rfl) ?_
      iterate 3 go_step
      refine wpList_store_new (W := w.alloc _) rfl _ _ _ rfl _ (w.heap.size + 1) (by simp) rfl rfl (by kernel_rfl) rfl (by kernel_rfl) ?_
      go_wp2
      refine bodyPost_ret (v := .tuple #[.agg #[.int .i64 0, .nilFunc], .bool false]) (by simp [results, Try.results72, go_sem]) rfl ?_
      exact ⟨by rw [HT.out, HD.out, HB.out], ((Below.refl _ _).alloc (Nat.le_refl _) _).alloc (by simp) _⟩
    · have h14 : 15 ≤ op := by omega
      clear h
      go_enter Try.func72, Try.ntmps72
      go_upto_region 1 with (fail)
      iterate 31 go_step
      refine wpList_run rfl (.agg #[.int .i64 0, .nilFunc, .int .i64 0, .nilFunc, .int .i64 0, .nilFunc, .int .i64 0, .nilFunc, .int .i64 0, .nilFunc, .int .i64 1, .func (.func 73) #[] #[], .int .i64 2, .func (.func 75) #[] #[], .int .i64 2, .func (.func 76) #[] #[], .int .i64 2, .func (.func 77) #[] #[], .int .i64 2, .func (.func 78) #[] #[], .int .i64 2, .func (.func 79) #[] #[], .int .i64 2, .func (.func 80) #[] #[], .int .i64 2, .func (.func 81) #[] #[], .int .i64 2, .func (.func 82) #[] #[], .int .i64 2, .func (.func 83) #[] #[]]) (by kernel_rfl) ?_
      iterate 3 go_step
      refine wpList_store_new (W := w.alloc _) rfl _ _ _ rfl _ (w.heap.size + 1) (by simp) rfl rfl (by kernel_rfl) rfl (by kernel_rfl) ?_
      go_wp2
      refine bodyPost_ret (v := .tuple #[.agg #[.int .i64 0, .nilFunc], .bool false]) (by simp [results, Try.results72, go_sem]) rfl ?_
      exact ⟨by rw [HT.out, HD.out, HB.out], ((Below.refl _ _).alloc (Nat.le_refl _) _).alloc (by simp) _⟩

end Go.Proofs.Ytejkhpgahnncnaa
end

section
namespace Go.Proofs.Ytejkhpgahnncnaa
open Go.RowKit
set_option linter.unusedVariables false
set_option linter.unusedSimpArgs false

def OfIs (t : Int) (fv : Value) (ok : Bool) (w : World) (e : Ending) (w' : World) : Prop := e = .returned (.tuple #[.agg #[.int .i64 t, fv], .bool ok]) ∧ Below w.heap.size w w'

theorem of_leaf (op : Int) (w : World) (h : ¬ (5 ≤ op ∧ op ≤ 14)) : Calls Try.prog 72 #[.int .i64 op] w (OfIs 0 .nilFunc false w) :=
  (of_any op w).mono fun e w' ⟨he, hb⟩ => by
    have ht : takesOf op = 0 := by simp only [takesOf]; rw [if_neg (by omega), if_neg (by omega)]
    have hd : doVal op = .nilFunc := by
      simp only [doVal]
      repeat rw [if_neg (by omega)]
    have hbb : decide (5 ≤ op ∧ op ≤ 14) = false := decide_eq_false h
    rw [ht, hd, hbb] at he
    exact ⟨he, hb⟩

theorem doVal_fn {op : Int} (h : 5 ≤ op ∧ op ≤ 14) : ∃ f : Nat, doVal op = .func (.func f) #[] #[] := by
  have hc : op = 5 ∨ op = 6 ∨ op = 7 ∨ op = 8 ∨ op = 9 ∨ op = 10 ∨ op = 11 ∨ op = 12 ∨ op = 13 ∨ op = 14 := by omega
  rcases hc with rfl | rfl | rfl | rfl | rfl | rfl | rfl | rfl | rfl | rfl
  all_goals exact ⟨_, rfl⟩

theorem of_op (op : Int) (w : World) (h : 5 ≤ op ∧ op ≤ 14) (t : Int) (ht : takesOf op = t) (f : Nat) (hf : doVal op = .func (.func f) #[] #[]) : Calls Try.prog 72 #[.int .i64 op] w (OfIs t (.func (.func f) #[] #[]) true w) :=
  (of_any op w).mono fun e w' ⟨he, hb⟩ => by
    have hbb : decide (5 ≤ op ∧ op ≤ 14) = true := decide_eq_true h
    rw [ht, hf, hbb] at he
    exact ⟨he, hb⟩

theorem takes_two {op : Int} (h : 6 ≤ op ∧ op ≤ 14) : takesOf op = 2 := by simp only [takesOf]; rw [if_neg (by omega), if_pos h]

def LiesBPost (l : List OpS) (w : World) (e : Ending) (w' : World) : Prop := e = .returned (.tuple #[.int .i64 (liesL l).1, .int .i64 (liesL l).2]) ∧ Below w.heap.size w w'

set_option maxRecDepth 100000 in
set_option maxHeartbeats 8000000 in
theorem lies_any (l : List OpS) (v : Value) (w : World) (hv : Sl rOp w v l) : Calls Try.prog 71 #[v] w (LiesBPost l w) := by
  have hl := hv.len
  obtain ⟨a, c, rfl, hc⟩ := ops_view hv
  have HC := Lib.hid hc; clear hc hv
  go_enter Try.func71, Try.ntmps71
  go_wp2
  go_loopw [4, 5, 13] (fun n m i wr => ∃ (k : Nat) (nn mm : Int), i = .int .i64 k ∧ n = .int .i64 nn ∧ m = .int .i64 mm ∧ k ≤ l.length ∧ 0 ≤ nn ∧ nn ≤ k ∧ 0 ≤ mm ∧ mm ≤ k ∧ liesGo (l.drop k) nn mm = liesL l ∧ Below w.heap.size w wr) (fun _ _ i _ => l.length - (intOf i).toNat)
  case atStart => exact ⟨0, 0, 0, rfl, rfl, rfl, by omega, by omega, by omega, by omega, by omega, rfl, Below.refl _ _⟩
  case round =>
    obtain ⟨k, nn, mm, rfl, rfl, rfl, hk, hn1, hn2, hm1, hm2, hrel, hb⟩ := hrel
    have HR := Lib.hid hrel; have HB := Lib.hid hb; have hz := hb.size; clear hrel hb
    by_cases hlt : k < l.length
    · obtain ⟨b, o, rfl, x1, x2, x3, _⟩ := HC.out k hlt
      have y1 := cell_later HB.out x1; have y2 := cell_later HB.out x2; have y3 := cell_later HB.out x3
      clear x1 x2 x3
      have HD := Lib.hid (lies_drop hlt nn mm)
      obtain ⟨x, hx⟩ : ∃ x, l[k] = x := ⟨_, rfl⟩
      rw [hx] at y1 y2 y3 HD
      clear hx
      by_cases c1 : 1 ≤ x.op ∧ x.op ≤ 4
      · have h5 : ¬ (5 ≤ x.op ∧ x.op ≤ 14) := by omega
        have HD1 := Lib.hid (HD.out.trans (if_pos c1))
        obtain ⟨c1a, c1b⟩ := c1
        have H5 := Lib.hid h5; clear h5
        go_wp2_with fail
        refine (of_leaf x.op _ H5.out).mono ?_
        rintro e w2 ⟨rfl, hb2⟩
        have q0 : w2.cell? ⟨wr.heap.size, 0, none⟩ = some (.int .i64 x.op) := by rw [(bcell hb2).1 _ _ (by simp)]; simp [go_sem]
        have hz2 := hb2.size
        simp only [World.size_alloc] at hz2
        have hne : wr.heap.size ≠ w2.heap.size := by omega
        have hlt2 : wr.heap.size < w2.heap.size := by omega
        have HB2 := Lib.hid ((HB.out.alloc hz _).trans (hb2.mono (by simp; omega)))
        clear hb2
        go_wp2
        all_goals
          go_roundw
          case rel => exact ⟨k + 1, nn + 1, max mm (nn + 1), by go_num, by go_num, by go_num, by omega, by omega, by omega, by omega, by omega, by rw [← HR.out, HD1.out], HB2.out.alloc (by omega) _⟩
          case measure => simp [intOf]; omega
      · by_cases c2 : x.op = 5 ∧ 1 ≤ nn
        · have HD1 := Lib.hid (HD.out.trans ((if_neg c1).trans (if_pos c2)))
          obtain ⟨c2a, c2b⟩ := c2
          obtain ⟨f, hf⟩ := doVal_fn (op := x.op) (by omega)
          have Hf := Lib.hid hf; clear hf
          have H5 : Hid (5 ≤ x.op ∧ x.op ≤ 14) := by simp only [Hid]; omega
          have HT : Hid (takesOf x.op = 1) := by simp only [Hid, takesOf]; rw [if_pos c2a]
          have h1 : ¬ x.op ≤ 4 := by omega
          have h1b : 1 ≤ x.op := by omega
          clear c1 c2a
          go_wp2_with fail
          refine (of_op x.op _ H5.out 1 HT.out f Hf.out).mono ?_
          rintro e w2 ⟨rfl, hb2⟩
          have q0 : w2.cell? ⟨wr.heap.size, 0, none⟩ = some (.int .i64 x.op) := by rw [(bcell hb2).1 _ _ (by simp)]; simp [go_sem]
          have hz2 := hb2.size
          simp only [World.size_alloc] at hz2
          have hne : wr.heap.size ≠ w2.heap.size := by omega
          have hlt2 : wr.heap.size < w2.heap.size := by omega
          have HB2 := Lib.hid ((HB.out.alloc hz _).trans (hb2.mono (by simp; omega)))
          clear hb2
          go_wp2
          all_goals
            go_roundw
            case rel => exact ⟨k + 1, nn, max mm (nn), by go_num, by go_num, by go_num, by omega, by omega, by omega, by omega, by omega, by rw [← HR.out, HD1.out], HB2.out.alloc (by omega) _⟩
            case measure => simp [intOf]; omega
        · by_cases c3 : 6 ≤ x.op ∧ x.op ≤ 14 ∧ 2 ≤ nn
          · have HD1 := Lib.hid (HD.out.trans ((if_neg c1).trans ((if_neg c2).trans (if_pos c3))))
            obtain ⟨c3a, c3b, c3c⟩ := c3
            obtain ⟨f, hf⟩ := doVal_fn (op := x.op) (by omega)
            have Hf := Lib.hid hf; clear hf
            have H5 : Hid (5 ≤ x.op ∧ x.op ≤ 14) := by simp only [Hid]; omega
            have HT : Hid (takesOf x.op = 2) := takes_two ⟨c3a, c3b⟩
            clear c1 c2
            go_wp2_with fail
            refine (of_op x.op _ H5.out 2 HT.out f Hf.out).mono ?_
            rintro e w2 ⟨rfl, hb2⟩
            have q0 : w2.cell? ⟨wr.heap.size, 0, none⟩ = some (.int .i64 x.op) := by rw [(bcell hb2).1 _ _ (by simp)]; simp [go_sem]
            have hz2 := hb2.size
            simp only [World.size_alloc] at hz2
            have hne : wr.heap.size ≠ w2.heap.size := by omega
            have hlt2 : wr.heap.size < w2.heap.size := by omega
            have HB2 := Lib.hid ((HB.out.alloc hz _).trans (hb2.mono (by simp; omega)))
            clear hb2
            go_wp2
            all_goals
              go_roundw
              case rel => exact ⟨k + 1, nn - 1, max mm (nn - 1), by go_num, by go_num, by go_num, by omega, by omega, by omega, by omega, by omega, by rw [← HR.out, HD1.out], HB2.out.alloc (by omega) _⟩
              case measure => simp [intOf]; omega
          · have HF := Lib.hid (show liesL l = (-1, -1) by rw [← HR.out, HD.out, if_neg c1, if_neg c2, if_neg c3])
            by_cases h5 : 5 ≤ x.op ∧ x.op ≤ 14
            · obtain ⟨f, hf⟩ := doVal_fn h5
              have Hf := Lib.hid hf; clear hf
              have H5 := Lib.hid h5
              by_cases h6 : x.op = 5
              · have HT : Hid (takesOf x.op = 1) := by simp only [Hid, takesOf]; rw [if_pos h6]
                have hn : nn < 1 := by omega
                have h1b : 1 ≤ x.op := by omega
                have h1 : ¬ x.op ≤ 4 := by omega
                clear c1 c2 c3 h5 h6
                go_wp2_with fail
                refine (of_op x.op _ H5.out 1 HT.out f Hf.out).mono ?_
                rintro e w2 ⟨rfl, hb2⟩
                have q0 : w2.cell? ⟨wr.heap.size, 0, none⟩ = some (.int .i64 x.op) := by rw [(bcell hb2).1 _ _ (by simp)]; simp [go_sem]
                have hz2 := hb2.size
                simp only [World.size_alloc] at hz2
                have hne : wr.heap.size ≠ w2.heap.size := by omega
                have hlt2 : wr.heap.size < w2.heap.size := by omega
                have HB2 := Lib.hid ((HB.out.alloc hz _).trans (hb2.mono (by simp; omega)))
                clear hb2
                go_wp2
                go_ret2
                exact ⟨by rw [HF.out]; rfl, HB2.out.alloc (by omega) _⟩
              · have HT : Hid (takesOf x.op = 2) := takes_two (by omega)
                have hn : nn < 2 := by omega
                have h1b : 1 ≤ x.op := by omega
                have h1 : ¬ x.op ≤ 4 := by omega
                clear c1 c2 c3 h5 h6
                go_wp2_with fail
                refine (of_op x.op _ H5.out 2 HT.out f Hf.out).mono ?_
                rintro e w2 ⟨rfl, hb2⟩
                have q0 : w2.cell? ⟨wr.heap.size, 0, none⟩ = some (.int .i64 x.op) := by rw [(bcell hb2).1 _ _ (by simp)]; simp [go_sem]
                have hz2 := hb2.size
                simp only [World.size_alloc] at hz2
                have hne : wr.heap.size ≠ w2.heap.size := by omega
                have hlt2 : wr.heap.size < w2.heap.size := by omega
                have HB2 := Lib.hid ((HB.out.alloc hz _).trans (hb2.mono (by simp; omega)))
                clear hb2
                go_wp2
                go_ret2
                exact ⟨by rw [HF.out]; rfl, HB2.out.alloc (by omega) _⟩
            · have H5 := Lib.hid h5
              by_cases h1 : x.op < 1
              · clear c1 c2 c3 h5
                go_wp2_with fail
                refine (of_leaf x.op _ H5.out).mono ?_
                rintro e w2 ⟨rfl, hb2⟩
                have q0 : w2.cell? ⟨wr.heap.size, 0, none⟩ = some (.int .i64 x.op) := by rw [(bcell hb2).1 _ _ (by simp)]; simp [go_sem]
                have hz2 := hb2.size
                simp only [World.size_alloc] at hz2
                have hne : wr.heap.size ≠ w2.heap.size := by omega
                have hlt2 : wr.heap.size < w2.heap.size := by omega
                have HB2 := Lib.hid ((HB.out.alloc hz _).trans (hb2.mono (by simp; omega)))
                clear hb2
                go_wp2
                go_ret2
                exact ⟨by rw [HF.out]; rfl, HB2.out.alloc (by omega) _⟩
              · have h14 : 14 < x.op := by omega
                clear c1 c2 c3 h5
                go_wp2_with fail
                refine (of_leaf x.op _ H5.out).mono ?_
                rintro e w2 ⟨rfl, hb2⟩
                have q0 : w2.cell? ⟨wr.heap.size, 0, none⟩ = some (.int .i64 x.op) := by rw [(bcell hb2).1 _ _ (by simp)]; simp [go_sem]
                have hz2 := hb2.size
                simp only [World.size_alloc] at hz2
                have hne : wr.heap.size ≠ w2.heap.size := by omega
                have hlt2 : wr.heap.size < w2.heap.size := by omega
                have HB2 := Lib.hid ((HB.out.alloc hz _).trans (hb2.mono (by simp; omega)))
                clear hb2
                go_wp2
                go_ret2
                exact ⟨by rw [HF.out]; rfl, HB2.out.alloc (by omega) _⟩
    · have hd : l.drop k = [] := List.drop_eq_nil_of_le (by omega)
      have HF := Lib.hid (show liesL l = (nn, mm) by rw [← HR.out, hd]; rfl)
      go_wp2
      go_ret2
      exact ⟨by rw [HF.out]; rfl, HB.out⟩

end Go.Proofs.Ytejkhpgahnncnaa
end

section
namespace Go.Proofs.Ytejkhpgahnncnaa
open Go.RowKit
set_option linter.unusedVariables false
set_option linter.unusedSimpArgs false

set_option maxRecDepth 100000 in
set_option maxHeartbeats 8000000 in
theorem rightC_any (l : List OpS) (regs : List Int) (own locs : Int) (v vr : Value) (w : World) (hv : Sl rOp w v l) (hr : Sl rI w vr regs) :
    Calls Try.prog 68 #[v, vr, .int .i64 own, .int .i64 locs] w (RightCPost l regs own locs w) := by
  have hl := hv.len
  have hl2 := hr.len
  have HV := Lib.hid hv
  obtain ⟨a, c, rfl, hc⟩ := ops_view hv
  obtain ⟨a2, c2, rfl, hc2⟩ := ints_view hr
  have HC := Lib.hid hc; have HC2 := Lib.hid hc2; clear hc hc2 hv hr
  go_enter Try.func68, Try.ntmps68
  go_wp2
  go_loopw [16] (fun i wr => ∃ k : Nat, i = .int .i64 k ∧ k ≤ l.length ∧ (∀ j (h : j < l.length), j < k → opOk regs own locs l[j] = true) ∧ Below w.heap.size w wr) (fun i _ => l.length - (intOf i).toNat)
  case atStart => exact ⟨0, rfl, by omega, fun j _ h => absurd h (by omega), Below.refl _ _⟩
  case round =>
    obtain ⟨k, rfl, hk, hall, hb⟩ := hrel
    have Hall := Lib.hid hall; have HB := Lib.hid hb
    have hz := hb.size
    clear hall hb
    by_cases hlt : k < l.length
    · obtain ⟨b, o, rfl, x1, x2, x3, _⟩ := HC.out k hlt
      have y1 := cell_later HB.out x1; have y2 := cell_later HB.out x2; have y3 := cell_later HB.out x3
      clear x1 x2 x3
      obtain ⟨x, hx⟩ : ∃ x, l[k] = x := ⟨_, rfl⟩
      have Hrel : Hid (opOk regs own locs x = true → ∀ j (h : j < l.length), j < k + 1 → opOk regs own locs l[j] = true) := fun hox j h2 h3 => by
        rcases Nat.lt_or_ge j k with h | h
        · exact Hall.out j h2 h
        · obtain rfl : j = k := by omega
          rw [hx]; exact hox
      have Hbad : Hid (∀ w', opOk regs own locs x = false → Below w.heap.size w w' → RightCPost l regs own locs w (.returned (.bool false)) w') := fun w' hox hbb => rightC_no hlt (by rw [hx]; exact hox) hbb
      rw [hx] at y1 y2 y3
      clear hx
      by_cases c1 : x.op = 1
      · have d1 : (x.op == 1) = true := ib_yes c1
        have HE := Lib.hid (show opOk regs own locs x = inB x.n 10000 by simp [opOk, c1])
        by_cases hb1 : x.n < 0
        · clear c1
          go_wp2
          go_ret
          exact Hbad.out _ (by rw [HE.out]; exact in_false (.inl hb1)) (HB.out.alloc hz _)
        · by_cases hb2 : 10000 ≤ x.n
          · clear c1
            go_wp2
            go_ret
            exact Hbad.out _ (by rw [HE.out]; exact in_false (.inr hb2)) (HB.out.alloc hz _)
          · clear c1
            go_wp2
            go_roundw
            case rel => exact ⟨k + 1, by go_num, by omega, Hrel.out (by rw [HE.out]; exact in_true (by omega)), HB.out.alloc hz _⟩
            case measure => simp [intOf]; omega
      · have d1 : (x.op == 1) = false := ib_no c1
        by_cases c2 : x.op = 2
        · have d2 : (x.op == 2) = true := ib_yes c2
          have HE := Lib.hid (show opOk regs own locs x = inB x.n own by simp [opOk, c2])
          by_cases hb1 : x.n < 0
          · clear c1 c2
            go_wp2
            go_ret
            exact Hbad.out _ (by rw [HE.out]; exact in_false (.inl hb1)) (HB.out.alloc hz _)
          · by_cases hb2 : own ≤ x.n
            · clear c1 c2
              go_wp2
              go_ret
              exact Hbad.out _ (by rw [HE.out]; exact in_false (.inr hb2)) (HB.out.alloc hz _)
            · clear c1 c2
              go_wp2
              go_roundw
              case rel => exact ⟨k + 1, by go_num, by omega, Hrel.out (by rw [HE.out]; exact in_true (by omega)), HB.out.alloc hz _⟩
              case measure => simp [intOf]; omega
        · have d2 : (x.op == 2) = false := ib_no c2
          by_cases c3 : x.op = 3
          · have d3 : (x.op == 3) = true := ib_yes c3
            have HE := Lib.hid (show opOk regs own locs x = inB x.n locs by simp [opOk, c3])
            by_cases hb1 : x.n < 0
            · clear c1 c2 c3
              go_wp2
              go_ret
              exact Hbad.out _ (by rw [HE.out]; exact in_false (.inl hb1)) (HB.out.alloc hz _)
            · by_cases hb2 : locs ≤ x.n
              · clear c1 c2 c3
                go_wp2
                go_ret
                exact Hbad.out _ (by rw [HE.out]; exact in_false (.inr hb2)) (HB.out.alloc hz _)
              · clear c1 c2 c3
                go_wp2
                go_roundw
                case rel => exact ⟨k + 1, by go_num, by omega, Hrel.out (by rw [HE.out]; exact in_true (by omega)), HB.out.alloc hz _⟩
                case measure => simp [intOf]; omega
          · have d3 : (x.op == 3) = false := ib_no c3
            by_cases c4 : x.op = 4
            · have d4 : (x.op == 4) = true := ib_yes c4
              cases ht : inB x.t regs.length
              · have HE := Lib.hid (opOk4_no (own := own) (locs := locs) c4 ht)
                simp only [inB, decide_eq_false_iff_not] at ht
                by_cases t1 : x.t < 0
                · by_cases hb1 : x.n < 0
                  all_goals
                    clear c1 c2 c3 c4 ht
                    go_wp2
                    go_ret
                    exact Hbad.out _ HE.out (HB.out.alloc hz _)
                · have t2 : (regs.length : Int) ≤ x.t := by omega
                  by_cases hb1 : x.n < 0
                  all_goals
                    clear c1 c2 c3 c4 ht
                    go_wp2
                    go_ret
                    exact Hbad.out _ HE.out (HB.out.alloc hz _)
              · have ht2 := ht
                simp only [inB, decide_eq_true_eq] at ht2
                obtain ⟨t1, t2⟩ := ht2
                obtain ⟨tn, htn⟩ := Int.eq_ofNat_of_zero_le t1
                rw [htn] at t2 y3 ht
                have t3 : tn < regs.length := by omega
                obtain ⟨b2, o2, rfl, z1, _⟩ := HC2.out tn t3
                have z2 := cell_later HB.out z1
                have HE := Lib.hid (opOk4 (own := own) (locs := locs) c4 htn t3)
                clear z1 t1 htn ht
                obtain ⟨m, hm⟩ : ∃ m, regs[tn] = m := ⟨_, rfl⟩
                rw [hm] at z2 HE
                clear hm
                have hlb : b2 < wr.heap.size := World.block_lt_of_cell? _ _ z2
                have hlb3 : b2 ≠ wr.heap.size := by omega
                by_cases hb1 : x.n < 0
                · clear c1 c2 c3 c4
                  go_wp2
                  go_ret
                  exact Hbad.out _ (by rw [HE.out]; exact in_false (.inl hb1)) (HB.out.alloc hz _)
                · by_cases hb2 : m ≤ x.n
                  · clear c1 c2 c3 c4
                    go_wp2
                    go_ret
                    exact Hbad.out _ (by rw [HE.out]; exact in_false (.inr hb2)) (HB.out.alloc hz _)
                  · clear c1 c2 c3 c4
                    go_wp2
                    go_roundw
                    case rel => exact ⟨k + 1, by go_num, by omega, Hrel.out (by rw [HE.out]; exact in_true (by omega)), HB.out.alloc hz _⟩
                    case measure => simp [intOf]; omega
            · have d4 : (x.op == 4) = false := ib_no c4
              have HE := Lib.hid (show opOk regs own locs x = true by simp [opOk, c1, c2, c3, c4])
              clear c1 c2 c3 c4
              go_wp2
              go_roundw
              case rel => exact ⟨k + 1, by go_num, by omega, Hrel.out HE.out, HB.out.alloc hz _⟩
              case measure => simp [intOf]; omega
    · have HG := Lib.hid (rightC_good (regs := regs) (own := own) (locs := locs) (l := l) (fun j hj => Hall.out j hj (by omega)))
      go_wp2_with fail
      refine (lies_any l _ _ (HV.out.mono mono_op HB.out)).mono ?_
      rintro e w' ⟨rfl, hb2⟩
      have HB2 := Lib.hid (HB.out.trans (hb2.mono hz)); clear hb2
      go_wp2
      go_ret
      exact ⟨by rw [HG.out]; rfl, HB2.out⟩

end Go.Proofs.Ytejkhpgahnncnaa
end

section
namespace Go.Proofs.Ytejkhpgahnncnaa
open Go.RowKit
set_option linter.unusedVariables false
set_option linter.unusedSimpArgs false

set_option maxHeartbeats 400000 in
theorem place_any (has : Bool) (n m : Int) (w : World) : Calls Try.prog 69 #[.bool has, .int .i64 n, .int .i64 m] w fun e w' => e = .returned (.bool (placeB has n m)) ∧ w = w' := by
  cases has
  all_goals
    go_enter Try.func69, Try.ntmps69
    go_wp2
    all_goals
      go_ret
      refine ⟨congrArg (fun b => Ending.returned (.bool b)) ?_, rfl⟩
      rw [Bool.eq_iff_iff]
      simp [placeB, inB]
      try omega

set_option maxHeartbeats 400000 in
theorem done_any (x : InstrS) (ve vf : Value) (w : World) (he : Sl rOp w ve x.e) (hf : Sl rOp w vf x.f) :
    Calls Try.prog 60 #[.agg #[.int .i64 x.op, .int .i64 x.reg, .int .i64 x.loc, ve, vf, .bool x.ne, .int .i64 x.goal]] w fun e w' => e = .returned (.bool (doneOk x)) ∧ Below w.heap.size w w' := by
  have hl1 := he.len
  have hl2 := hf.len
  obtain ⟨a, c, rfl, _⟩ := ops_view he
  obtain ⟨a2, c2, rfl, _⟩ := ops_view hf
  clear he hf
  obtain ⟨op, reg, loc, le, lf, ne, goal⟩ := x
  cases ne
  all_goals
    go_enter Try.func60, Try.ntmps60
    go_wp2
    all_goals
      go_ret
      refine ⟨congrArg (fun b => Ending.returned (.bool b)) ?_, (Below.refl _ _).alloc (Nat.le_refl _) _⟩
      rw [Bool.eq_iff_iff]
      simp [doneOk, List.isEmpty_iff, ← List.length_eq_zero_iff]
      try first | omega | (intros; simp only [Go.RowKit.wrap64]; omega)

end Go.Proofs.Ytejkhpgahnncnaa
end

section
namespace Go.Proofs.Ytejkhpgahnncnaa
open Go.RowKit
set_option linter.unusedVariables false
set_option linter.unusedSimpArgs false

def BoolBelow (b : Bool) (w : World) (e : Ending) (w' : World) : Prop := e = .returned (.bool b) ∧ Below w.heap.size w w'

set_option maxRecDepth 100000 in
set_option maxHeartbeats 1000000 in
theorem fits1_any (has : Bool) (l : List OpS) (regs : Int) (b : Nat) (v : Value) (w : World) (hv : Sl rOp w v l) (hc : w.cell? ⟨b, 0, none⟩ = some (.int .i64 regs)) :
    Calls Try.prog 67 #[.bool has, v, .pointer (some ⟨b, 0, none⟩)] w (BoolBelow (codeB has l regs) w) := by
  have hl := hv.len
  have HV := Lib.hid hv
  obtain ⟨a, c, rfl, _⟩ := ops_view hv
  clear hv
  cases has
  · go_enter Try.func67, Try.ntmps67
    go_wp2
    all_goals
      go_ret
      refine ⟨congrArg (fun b => Ending.returned (.bool b)) ?_, Below.refl _ _⟩
      rw [Bool.eq_iff_iff]
      simp [codeB, List.isEmpty_iff, ← List.length_eq_zero_iff]
      try omega
  · go_enter Try.func67, Try.ntmps67
    go_wp2_with fail
    refine (rightC_any l [] regs 0 _ _ _ HV.out (Sl.nil _ _)).mono ?_
    rintro e w1 ⟨rfl, hb⟩
    go_wp2
    all_goals
      go_ret
      refine ⟨congrArg (fun b => Ending.returned (.bool b)) ?_, hb⟩
      simp [codeB, *]

end Go.Proofs.Ytejkhpgahnncnaa
end

section
namespace Go.Proofs.Ytejkhpgahnncnaa
open Go.RowKit
set_option linter.unusedVariables false
set_option linter.unusedSimpArgs false

def NeedIs (n : Needs) (w : World) (e : Ending) (w' : World) : Prop := e = .returned (.tuple #[.agg #[.bool n.reg, .bool n.loc, .bool n.e, .bool n.f, .bool n.ne, .bool n.goal], .bool true]) ∧ Below w.heap.size w w'
def NeedNone (w : World) (e : Ending) (w' : World) : Prop := e = .returned (.tuple #[.agg #[.bool false, .bool false, .bool false, .bool false, .bool false, .bool false], .bool false]) ∧ Below w.heap.size w w'
theorem needs_some (op : Int) (n : Needs) (w : World) (h : needsOf op = some n) : Calls Try.prog 66 #[.int .i64 op] w (NeedIs n w) :=
  (needs_any op w).mono fun e w' ⟨he, hb⟩ => ⟨by rw [he, h]; rfl, hb⟩
theorem needs_none (op : Int) (w : World) (h : needsOf op = none) : Calls Try.prog 66 #[.int .i64 op] w (NeedNone w) :=
  (needs_any op w).mono fun e w' ⟨he, hb⟩ => ⟨by rw [he, h]; rfl, hb⟩

/-- Two variables laid, and what was made behind them: they hold what they held. -/
theorem two_boxes {w w1 : World} {cs ds : Array Value} {E F : TypeId} (hb : Below ((w.alloc (.cells cs E)).alloc (.cells ds F)).heap.size ((w.alloc (.cells cs E)).alloc (.cells ds F)) w1) :
    (∀ k u, cs[k]? = some u → w1.cell? ⟨w.heap.size, k, none⟩ = some u) ∧ (∀ k u, ds[k]? = some u → w1.cell? ⟨w.heap.size + 1, k, none⟩ = some u) ∧ w.heap.size + 2 ≤ w1.heap.size ∧ Below w.heap.size w w1 := by
  have hz := hb.size
  simp only [World.size_alloc] at hz
  have hc := (bcell hb).1
  have h1 := heap_alloc_new w (.cells cs E)
  have h2 := heap_alloc_new (w.alloc (.cells cs E)) (.cells ds F)
  refine ⟨fun k u hu => ?_, fun k u hu => ?_, by omega, ?_⟩
  · rw [hc _ _ (by simp only [World.size_alloc]; omega)]
    simp [hu]
  · rw [hc _ _ (by simp only [World.size_alloc]; omega)]
    simp [hu]
  · refine Below.trans (b := (w.alloc (.cells cs E)).alloc (.cells ds F)) ?_ ?_
    · exact ((Below.refl _ _).alloc (Nat.le_refl _) _).alloc (by simp) _
    · exact hb.mono (by simp only [World.size_alloc]; omega)

theorem past_cell {w1 : World} {o : Obj} {b k : Nat} {u : Value} (h : w1.cell? ⟨b, k, none⟩ = some u) (hb : b < w1.heap.size) : (w1.alloc o).cell? ⟨b, k, none⟩ = some u :=
  (((Below.refl w1.heap.size w1).alloc (Nat.le_refl _) o).cell (p := ⟨b, k, none⟩) hb).trans h
theorem new_cell (w1 : World) (cs : Array Value) (E : TypeId) (k : Nat) (u : Value) (h : cs[k]? = some u) : (w1.alloc (.cells cs E)).cell? ⟨w1.heap.size, k, none⟩ = some u := by simp [h]

set_option maxRecDepth 100000 in
set_option maxHeartbeats 4000000 in
theorem fits_any (op reg loc : Int) (le lf : List OpS) (ne : Bool) (goal : Int) (ve vf : Value) (regs locs many : Int) (w : World) (he : Sl rOp w ve le) (hf : Sl rOp w vf lf) :
    Calls Try.prog 61 #[.agg #[.int .i64 op, .int .i64 reg, .int .i64 loc, ve, vf, .bool ne, .int .i64 goal], .int .i64 regs, .int .i64 locs, .int .i64 many] w (BoolBelow (instrOk regs locs many ⟨op, reg, loc, le, lf, ne, goal⟩) w) := by
  have HE := Lib.hid he; have HF := Lib.hid hf; clear he hf
  obtain ⟨res, hres⟩ : ∃ r, instrOk regs locs many ⟨op, reg, loc, le, lf, ne, goal⟩ = r := ⟨_, rfl⟩
  have HR := Lib.hid hres
  rw [hres]
  clear hres
  cases hn : needsOf op with
  | none =>
    have HN := Lib.hid hn; clear hn
    go_enter Try.func61, Try.ntmps61
    go_wp2_with fail
    refine (needs_none op _ HN.out).mono ?_
    rintro e w1 ⟨rfl, hb⟩
    obtain ⟨_, _, hz, hb2⟩ := two_boxes hb
    have HB := Lib.hid hb2
    clear hb hb2
    go_wp2
    go_ret
    exact ⟨by rw [← HR.out]; simp [instrOk, HN.out], HB.out.alloc (by omega) _⟩
  | some n =>
    obtain ⟨nr, nl, n1, n2, nn, ng⟩ := n
    have HN := Lib.hid hn; clear hn
    by_cases hne : ne = true ∧ nn = false
    · obtain ⟨rfl, rfl⟩ := hne
      go_enter Try.func61, Try.ntmps61
      go_wp2_with fail
      refine (needs_some op _ _ HN.out).mono ?_
      rintro e w1 ⟨rfl, hb⟩
      obtain ⟨hx, _, hz, hb2⟩ := two_boxes hb
      have HB := Lib.hid hb2
      have y5 := hx 5 _ rfl
      have k1 : w.heap.size < w1.heap.size := by omega
      clear hb hb2 hx
      go_wp2
      go_ret
      exact ⟨by rw [← HR.out]; simp [instrOk, HN.out], HB.out.alloc (by omega) _⟩
    · have hcs : (ne = false) ∨ (ne = true ∧ (!nn) = false) := by cases ne <;> cases nn <;> simp_all
      clear hne
      rcases hcs with hne | ⟨hne, hnn⟩
      all_goals
        go_enter Try.func61, Try.ntmps61
        go_wp2_with fail
        refine (needs_some op _ _ HN.out).mono ?_
        rintro e w1 ⟨rfl, hb⟩
        obtain ⟨hx, hy, hz, hb2⟩ := two_boxes hb
        have HB := Lib.hid hb2
        have y1 := hx 1 _ rfl
        have y2 := hx 2 _ rfl
        have y3 := hx 3 _ rfl
        have y4 := hx 4 _ rfl
        have y5 := hx 5 _ rfl
        have y6 := hx 6 _ rfl
        have z0 := hy 0 _ rfl
        have k1 : w.heap.size < w1.heap.size := by omega
        have k2 : w.heap.size + 1 < w1.heap.size := by omega
        clear hb hb2 hx hy
        go_wp2_with fail
        refine (place_any nr reg regs _).mono ?_
        rintro e w2 ⟨rfl, rfl⟩
        cases p1 : placeB nr reg regs
        · go_wp2
          go_ret
          exact ⟨by rw [← HR.out]; simp [instrOk, HN.out, p1], HB.out.alloc (by omega) _⟩
        · have P1 := Lib.hid p1; clear p1
          go_wp2_with fail
          refine (place_any nl loc locs _).mono ?_
          rintro e w2 ⟨rfl, rfl⟩
          cases p2 : placeB nl loc locs
          · go_wp2
            go_ret
            exact ⟨by rw [← HR.out]; simp [instrOk, HN.out, p2], HB.out.alloc (by omega) _⟩
          · have P2 := Lib.hid p2; clear p2
            go_wp2_with fail
            refine (place_any ng goal many _).mono ?_
            rintro e w2 ⟨rfl, rfl⟩
            cases p3 : placeB ng goal many
            · go_wp2
              go_ret
              exact ⟨by rw [← HR.out]; simp [instrOk, HN.out, p3], HB.out.alloc (by omega) _⟩
            · have P3 := Lib.hid p3; clear p3
              go_wp2_with fail
              have hBW : Below w.heap.size w (w1.alloc (.cells #[.bool nr, .bool nl, .bool n1, .bool n2, .bool nn, .bool ng] 93)) := HB.out.alloc (by omega) _
              have q4 := past_cell (o := .cells #[.bool nr, .bool nl, .bool n1, .bool n2, .bool nn, .bool ng] 93) y4 k1
              have q0 := past_cell (o := .cells #[.bool nr, .bool nl, .bool n1, .bool n2, .bool nn, .bool ng] 93) z0 k2
              have q3 := new_cell w1 #[.bool nr, .bool nl, .bool n1, .bool n2, .bool nn, .bool ng] 93 3 _ rfl
              have hWs : w1.heap.size < (w1.alloc (.cells #[.bool nr, .bool nl, .bool n1, .bool n2, .bool nn, .bool ng] 93)).heap.size := by simp
              generalize w1.alloc (.cells #[.bool nr, .bool nl, .bool n1, .bool n2, .bool nn, .bool ng] 93) = W at *
              have HW := Lib.hid hBW
              clear hBW y1 y2 y3 y4 y5 y6 z0
              refine (fits1_any n1 le regs _ _ _ (HE.out.mono mono_op HW.out) q0).mono ?_
              rintro e w2 ⟨rfl, hb⟩
              have r4 := (hb.cell (p := ⟨w.heap.size, 4, none⟩) (by show w.heap.size < _; omega)).trans q4
              have r0 := (hb.cell (p := ⟨w.heap.size + 1, 0, none⟩) (by show w.heap.size + 1 < _; omega)).trans q0
              have r3 := (hb.cell (p := ⟨w1.heap.size, 3, none⟩) hWs).trans q3
              have HX := Lib.hid (HW.out.trans (hb.mono HW.out.size))
              clear hb q4 q0 q3
              cases p4 : codeB n1 le regs
              · go_wp2
                go_ret
                exact ⟨by rw [← HR.out]; simp [instrOk, HN.out, P1.out, P2.out, P3.out, p4, hne], HX.out⟩
              · have P4 := Lib.hid p4; clear p4
                go_wp2_with fail
                refine (fits1_any n2 lf regs _ _ _ (HF.out.mono mono_op HX.out) r0).mono ?_
                rintro e w3 ⟨rfl, hb⟩
                have HY := Lib.hid (HX.out.trans (hb.mono HX.out.size))
                clear hb
                go_wp2
                go_ret
                exact ⟨by rw [← HR.out]; cases nn <;> simp_all [instrOk, HN.out, P1.out, P2.out, P3.out, P4.out], HY.out⟩

end Go.Proofs.Ytejkhpgahnncnaa
end

section
namespace Go.Proofs.Ytejkhpgahnncnaa
open Go.RowKit
set_option linter.unusedVariables false
set_option linter.unusedSimpArgs false

theorem Sl.cap {α : Type} {r : Rd α} {w : World} {a : Option Addr} {n c : Nat} {l : List α} (h : Sl r w (.slice a n c) l) : n = l.length ∧ l.length ≤ c ∧ c ≤ 9223372036854775807 := by
  obtain ⟨a', c', e, ⟨h1, h2, _⟩, _⟩ := h
  simp only [List.cons.injEq, and_true, Value.slice.injEq] at e
  obtain ⟨rfl, rfl, rfl⟩ := e
  unfold maxLen at h2
  exact ⟨rfl, h1, h2⟩

set_option maxRecDepth 100000 in
set_option maxHeartbeats 4000000 in
theorem row_any (l : List InstrS) (v : Value) (regs locs : Int) (w : World) (hv : Sl rInstr w v l) :
    Calls Try.prog 51 #[v, .int .i64 regs, .int .i64 locs] w (BoolBelow (rowOk l regs locs) w) := by
  have hl := hv.len
  obtain ⟨a, c, rfl, hc⟩ := instrs_view hv
  obtain ⟨_, hcap, hcap2⟩ := hv.cap
  have HC := Lib.hid hc; clear hc hv
  by_cases h0 : l.length = 0
  · have HR := Lib.hid (rowOk_size (l := l) (regs := regs) (locs := locs) (by omega))
    rw [HR.out, h0]
    clear h0
    go_enter Try.func51, Try.ntmps51
    go_wp2
    go_ret
    exact ⟨rfl, Below.refl _ _⟩
  by_cases h1 : 1000 < l.length
  · have HR := Lib.hid (rowOk_size (l := l) (regs := regs) (locs := locs) (by omega))
    rw [HR.out]
    go_enter Try.func51, Try.ntmps51
    go_wp2
    go_ret
    exact ⟨rfl, Below.refl _ _⟩
  obtain ⟨m, hm⟩ : ∃ m, l.length = m + 1 := ⟨l.length - 1, by omega⟩
  have HM := Lib.hid hm
  have hml : m < l.length := by omega
  have hmm : m ≤ 999 := by omega
  have hlast : ∀ h : l.length - 1 < l.length, l[l.length - 1]'h = l[m]'hml := fun _ => by congr 1; omega
  obtain ⟨b, off, ve, vf, rfl, x0, x1, x2, x3, x4, x5, x6, s1, s2, bd⟩ := HC.out m hml
  clear bd
  obtain ⟨x, hx⟩ : ∃ x, l[m]'hml = x := ⟨_, rfl⟩
  rw [hx] at x0 x1 x2 x5 x6 s1 s2
  have HL : Hid (∀ h : l.length - 1 < l.length, l[l.length - 1]'h = x) := fun h => (hlast h).trans hx
  clear hlast hx h0 h1
  rw [hm]
  clear hm
  have S1 := Lib.hid s1; have S2 := Lib.hid s2; clear s1 s2
  go_enter Try.func51, Try.ntmps51
  go_wp2_with fail
  refine (done_any x ve vf _ S1.out S2.out).mono ?_
  rintro e w1 ⟨rfl, hb⟩
  have HB := Lib.hid hb
  clear hb x0 x1 x2 x3 x4 x5 x6
  cases hd : doneOk x
  · have HN := Lib.hid (show rowOk l regs locs = false from rowOk_last (by have := HM.out; omega) (by rw [HL.out (by have := HM.out; omega)]; exact hd))
    clear hd
    go_wp2
    go_ret
    exact ⟨by rw [HN.out]; rfl, HB.out⟩
  · have HD := Lib.hid hd; clear hd
    go_wp2
    go_loopw [31] (fun i wr => ∃ k : Nat, i = .int .i64 k ∧ k ≤ m ∧ (∀ j (h : j < l.length), j < k → instrOk regs locs l.length l[j] = true) ∧ Below w.heap.size w wr) (fun i _ => m - (intOf i).toNat)
    case atStart => exact ⟨0, rfl, by omega, fun j _ h => absurd h (by omega), HB.out⟩
    case round =>
      obtain ⟨k, rfl, hk, hall, hb⟩ := hrel
      have Hall := Lib.hid hall; have HW := Lib.hid hb
      have hz := hb.size
      clear hall hb
      by_cases hlt : k < m
      · obtain ⟨b2, o2, ve, vf, he, y0, y1, y2, y3, y4, y5, y6, s1, s2, _⟩ := HC.out k (by have := HM.out; omega)
        simp only [Option.some.injEq, Addr.mk.injEq, and_true] at he
        obtain ⟨rfl, rfl⟩ := he
        have z0 := cell_later HW.out y0; have z1 := cell_later HW.out y1; have z2 := cell_later HW.out y2; have z3 := cell_later HW.out y3
        have z4 := cell_later HW.out y4; have z5 := cell_later HW.out y5; have z6 := cell_later HW.out y6
        clear y0 y1 y2 y3 y4 y5 y6
        have hkl : k < l.length := by have := HM.out; omega
        obtain ⟨y, hy⟩ : ∃ y, l[k]'hkl = y := ⟨_, rfl⟩
        rw [hy] at z0 z1 z2 z5 z6 s1 s2
        have HY := Lib.hid hy; clear hy
        obtain ⟨op, reg, loc, le, lf, ne, goal⟩ := y
        dsimp only at z0 z1 z2 z5 z6 s1 s2
        obtain ⟨ae, ce, rfl, _⟩ := ops_view s1
        obtain ⟨af, cf, rfl, _⟩ := ops_view s2
        have S3 := Lib.hid (s1.mono mono_op HW.out); have S4 := Lib.hid (s2.mono mono_op HW.out); clear s1 s2
        go_wp2_with fail
        refine (fits_any op reg loc le lf ne goal _ _ regs locs _ _ (S3.out.mono mono_op ((Below.refl _ _).alloc (Nat.le_refl _) _)) (S4.out.mono mono_op ((Below.refl _ _).alloc (Nat.le_refl _) _))).mono ?_
        rintro e w2 ⟨rfl, hb⟩
        have HX := Lib.hid ((HW.out.alloc hz _).trans (hb.mono (by simp only [World.size_alloc]; omega)))
        clear hb
        cases hf : instrOk regs locs ((m : Int) + 1) ⟨op, reg, loc, le, lf, ne, goal⟩
        · have HN := Lib.hid (show rowOk l regs locs = false from rowOk_bad (k := k) (by have := HM.out; omega) (by rw [HY.out, HM.out]; exact hf))
          clear hf z0 z1 z2 z3 z4 z5 z6
          go_wp2
          go_ret
          exact ⟨by rw [HN.out]; rfl, HX.out⟩
        · have HF := Lib.hid hf
          clear hf z0 z1 z2 z3 z4 z5 z6
          go_wp2
          go_roundw
          case rel => exact ⟨k + 1, by go_num, by omega, fun j h2 h3 => by
            rcases Nat.lt_or_ge j k with h | h
            · exact Hall.out j h2 h
            · obtain rfl : j = k := by omega
              rw [HY.out, HM.out]; exact HF.out, HX.out⟩
          case measure => simp [intOf]; omega
      · have HG := Lib.hid (show rowOk l regs locs = true from rowOk_good (by have := HM.out; omega) (by have := HM.out; omega) (by rw [HL.out (by have := HM.out; omega)]; exact HD.out) (fun j hj => Hall.out j (by omega) (by have := HM.out; omega)))
        go_wp2
        go_ret
        exact ⟨by rw [HG.out]; rfl, HW.out⟩

end Go.Proofs.Ytejkhpgahnncnaa
end

section
namespace Go.Proofs.Ytejkhpgahnncnaa
open Go.RowKit
set_option linter.unusedVariables false
set_option linter.unusedSimpArgs false

/-- A world in which all that was there is as it was. -/
structure Later (w : World) where
  world : World
  below : Below w.heap.size w world

def Later.self (w : World) : Later w := ⟨w, Below.refl _ _⟩
instance (w : World) : Nonempty (Later w) := ⟨Later.self w⟩
theorem Later.cell {w : World} {p : Addr} {v : Value} (h : w.cell? p = some v) : ∀ s : Later w, s.world.cell? p = some v := fun s => cell_later s.below h

theorem wp_region_later {P : Program} {id : Nat} {Q : Exit → Act → World → Prop} {a : Act} {w : World} {l : List Oper} (hm : P.follows .mixedOrders = true) (hB : Region.lexB .any l.toArray = true)
    (h : wpQuiet P l.toArray (fun w' => ∃ s : Later w, w' = s.world) (fun a => ∀ w', (∃ s : Later w, w' = s.world) → Q .normal a w') l a) : (Code.region id l.toArray true).wp P Q a w :=
  wp_region_quiet (C := fun w' => ∃ s : Later w, w' = s.world) hm hB ⟨⟨w.drew, (Below.refl _ _).drew⟩, rfl⟩ (by simpa using h)

theorem Calls.later {P : Program} {f : FuncId} {args : Array Value} {w : World} {s : Later w} {v : Value} {Post : Ending → World → Prop} (h : Calls P f args s.world Post) (hp : ∀ e w', Post e w' → e = .returned v ∧ Below s.world.heap.size s.world w') :
    Calls P f args s.world fun e w'' => e = .returned v ∧ ∃ t : Later w, w'' = t.world :=
  h.mono fun e w'' hpost => ⟨(hp e w'' hpost).1, ⟨w'', s.below.trans ((hp e w'' hpost).2.mono s.below.size)⟩, rfl⟩

end Go.Proofs.Ytejkhpgahnncnaa
end

section
namespace Go.Proofs.Ytejkhpgahnncnaa
open Go.RowKit
set_option linter.unusedVariables false
set_option linter.unusedSimpArgs false

theorem eq_of_ne {a b : Nat} (h : ((a : Int) != (b : Int)) = false) : a = b := by simp only [bne_eq_false_iff_eq] at h; omega
theorem headOk_no {u : UnitS} (h : headOk u = false) (h1 : 2 ≤ u.mod) (h2 : u.mod ≤ 16) (h3 : u.init.length ≤ 6) (h4 : 1 ≤ u.regs.length) (h5 : u.regs.length ≤ 4) (h6 : u.code.length = u.regs.length) : False := by
  simp only [headOk, decide_eq_false_iff_not] at h
  omega

set_option maxRecDepth 100000 in
set_option maxHeartbeats 4000000 in
theorem lowRight_head (u : UnitS) (v : Value) (w : World) (hv : UnitV w v u) (hh : headOk u = false) :
    Calls Try.prog 33 #[v] w (BoolBelow false w) := by
  obtain ⟨vi, vr, vc, rfl, s1, s2, s3, m1, m2⟩ := hv
  have l1 := s1.len; have l2 := s2.len; have l3 := s3.len
  obtain ⟨a1, c1, rfl, h1⟩ := ints_view s1
  obtain ⟨a2, c2, rfl, h2⟩ := ints_view s2
  obtain ⟨a3, c3, rfl, h3⟩ := slices_view s3
  clear s1 s2 s3 h1 h2 h3
  have HH : Hid (2 ≤ u.mod → u.mod ≤ 16 → u.init.length ≤ 6 → 1 ≤ u.regs.length → u.regs.length ≤ 4 → u.code.length = u.regs.length → False) := headOk_no hh
  clear hh
  obtain ⟨mod, init, regs, code⟩ := u
  dsimp only at *
  generalize init.length = n1 at *
  generalize regs.length = n2 at *
  generalize code.length = n3 at *
  go_enter Try.func33, Try.ntmps33
  go_wp2
  all_goals
    first
    | (go_ret; exact ⟨rfl, (Below.refl _ _).alloc (Nat.le_refl _) _⟩)
    | (exfalso; exact HH.out (by omega) (by omega) (by omega) (by omega) (by omega) (by first | omega | exact eq_of_ne (by first | assumption | exact (by assumption : _ ∧ ((n3 : Int) != (n2 : Int)) = false).2)))

set_option maxRecDepth 100000 in
set_option maxHeartbeats 8000000 in
theorem lowRight_main (u : UnitS) (v : Value) (w : World) (hv : UnitV w v u) (hh : headOk u = true) :
    Calls Try.prog 33 #[v] w (BoolBelow (rightU u) w) := by
  obtain ⟨vi, vr, vc, rfl, s1, s2, s3, m1, m2⟩ := hv
  have l1 := s1.len; have l2 := s2.len; have l3 := s3.len
  obtain ⟨a1, c1, rfl, h1⟩ := ints_view s1
  obtain ⟨a2, c2, rfl, h2⟩ := ints_view s2
  obtain ⟨a3, c3, rfl, h3⟩ := slices_view s3
  have H1 := Lib.hid h1; have H2 := Lib.hid h2; have H3 := Lib.hid h3
  clear s1 s2 s3 h1 h2 h3
  have HH := Lib.hid hh
  simp only [headOk, decide_eq_true_eq] at hh
  obtain ⟨g1, g2, g3, g4, g5, g6⟩ := hh
  have HU := Lib.hid (Eq.refl (rightU u))
  obtain ⟨res, hres⟩ : ∃ r, rightU u = r := ⟨_, rfl⟩
  have HR := Lib.hid hres
  rw [hres]
  clear hres
  obtain ⟨mod, init, regs, code⟩ := u
  dsimp only at *
  obtain ⟨n1, hn1⟩ : ∃ n, init.length = n := ⟨_, rfl⟩
  obtain ⟨n2, hn2⟩ : ∃ n, regs.length = n := ⟨_, rfl⟩
  rw [hn1] at g3 ⊢
  rw [hn2] at g4 g5 g6 ⊢
  rw [g6]
  have N1 := Lib.hid hn1; have N2 := Lib.hid hn2; have N3 := Lib.hid g6
  clear hn1 hn2 g6 l1 l2 l3
  have d0 : ((n2 : Int) == 0) = false := ib_no (by omega)
  go_enter Try.func33, Try.ntmps33
  go_wp2
  go_loop [45] (fun i => ∃ k : Nat, i = .int .i64 k ∧ k ≤ n1 ∧ ∀ j (h : j < init.length), j < k → inB init[j] mod = true) (fun i => n1 - (intOf i).toNat)
  case atStart => exact ⟨0, rfl, by omega, fun j _ h => absurd h (by omega)⟩
  case round =>
    obtain ⟨k, rfl, hk, hall⟩ := hrel
    have Hall := Lib.hid hall; clear hall
    by_cases hlt : k < n1
    · have hki : k < init.length := by have := N1.out; omega
      obtain ⟨b, o, rfl, x1, _, _⟩ := H1.out k hki
      obtain ⟨x, hx⟩ : ∃ x, init[k]'hki = x := ⟨_, rfl⟩
      rw [hx] at x1
      have HX := Lib.hid hx; clear hx
      have hbl : b < w.heap.size := World.block_lt_of_cell? _ _ x1
      have hbn : b ≠ w.heap.size := by omega
      by_cases c1 : x < 0
      · have HN := Lib.hid (show res = false by rw [← HR.out]; exact rightU_init (allIn_bad hki (by show inB (init[k]'hki) mod = false; rw [HX.out]; exact in_false (.inl c1))))
        go_wp2
        go_ret
        exact ⟨by rw [HN.out]; rfl, (Below.refl _ _).alloc (Nat.le_refl _) _⟩
      · by_cases c2 : mod ≤ x
        · have HN := Lib.hid (show res = false by rw [← HR.out]; exact rightU_init (allIn_bad hki (by show inB (init[k]'hki) mod = false; rw [HX.out]; exact in_false (.inr c2))))
          go_wp2
          go_ret
          exact ⟨by rw [HN.out]; rfl, (Below.refl _ _).alloc (Nat.le_refl _) _⟩
        · go_wp2
          go_round
          case rel => exact ⟨k + 1, by go_num, by omega, fun j h2 h3 => by
            rcases Nat.lt_or_ge j k with h | h
            · exact Hall.out j h2 h
            · obtain rfl : j = k := by omega
              rw [HX.out]; exact in_true (by omega)⟩
          case measure => simp [intOf]; omega
    · have HI := Lib.hid (show allIn init mod = true from allIn_good fun j hj => Hall.out j hj (by have := N1.out; omega))
      clear Hall
      go_wp2_with fail
      have hBW : Below w.heap.size w (w.alloc (.cells #[.int .i64 mod, .slice a1 n1 c1, .slice a2 n2 c2, .slice a3 n2 c3] 25)) := (Below.refl _ _).alloc (Nat.le_refl _) _
      have q1 := new_cell w #[.int .i64 mod, .slice a1 n1 c1, .slice a2 n2 c2, .slice a3 n2 c3] 25 1 _ rfl
      have q2 := new_cell w #[.int .i64 mod, .slice a1 n1 c1, .slice a2 n2 c2, .slice a3 n2 c3] 25 2 _ rfl
      have q3 := new_cell w #[.int .i64 mod, .slice a1 n1 c1, .slice a2 n2 c2, .slice a3 n2 c3] 25 3 _ rfl
      have hWs : w.heap.size < (w.alloc (.cells #[.int .i64 mod, .slice a1 n1 c1, .slice a2 n2 c2, .slice a3 n2 c3] 25)).heap.size := by simp
      generalize w.alloc (.cells #[.int .i64 mod, .slice a1 n1 c1, .slice a2 n2 c2, .slice a3 n2 c3] 25) = W at *
      have HW := Lib.hid hBW
      clear hBW
      go_loopw [61] (fun i wr => ∃ k : Nat, i = .int .i64 k ∧ k ≤ n2 ∧ (∀ j, j < regs.length → j < k → threadOk ⟨mod, init, regs, code⟩ j = true) ∧ Below W.heap.size W wr) (fun i _ => n2 - (intOf i).toNat)
      case atStart => exact ⟨0, rfl, by omega, fun j _ h => absurd h (by omega), Below.refl _ _⟩
      case round =>
        obtain ⟨k, rfl, hk, hall, hb⟩ := hrel
        have Hall := Lib.hid hall; have HB := Lib.hid hb
        have hz := hb.size
        clear hall hb
        by_cases hlt : k < n2
        · have hkr : k < regs.length := by have := N2.out; omega
          have hkc : k < code.length := by have := N3.out; omega
          obtain ⟨b, o, rfl, x1, _, _⟩ := H2.out k hkr
          obtain ⟨b3, o3, vr, rfl, x3, sr⟩ := H3.out k hkc
          obtain ⟨x, hx⟩ : ∃ x, regs[k]'hkr = x := ⟨_, rfl⟩
          obtain ⟨row, hrow⟩ : ∃ r, code[k]'hkc = r := ⟨_, rfl⟩
          rw [hx] at x1
          rw [hrow] at sr
          have HT := Lib.hid (show threadOk ⟨mod, init, regs, code⟩ k = (decide (0 ≤ x ∧ x ≤ 6) && rowOk row x n1) by rw [threadOk_of (u := ⟨mod, init, regs, code⟩) hkr hkc, hx, hrow, N1.out])
          clear hx hrow
          have y1 := cell_later HB.out (cell_later HW.out x1)
          have y3 := cell_later HB.out (cell_later HW.out x3)
          have z1 := cell_later HB.out q2
          have z1' := cell_later HB.out q1
          have z3 := cell_later HB.out q3
          have SR := Lib.hid ((sr.mono mono_instr HW.out).mono mono_instr HB.out)
          clear x1 x3 sr
          have Hbad : Hid (threadOk ⟨mod, init, regs, code⟩ k = false → res = false) := fun h => by rw [← HR.out]; exact rightU_bad (u := ⟨mod, init, regs, code⟩) hkr h
          by_cases c1 : x < 0
          · have HN := Lib.hid (Hbad.out (by rw [HT.out, decide_eq_false (by omega), Bool.false_and]))
            go_wp2_with fail
            refine wp_region_later (by kernel_rfl) (by kernel_rfl) ?_
            repeat (go_big_quiet_step (fail))
            refine wpQuiet_nil ?_
            rintro w2 ⟨⟨w3, hb3⟩, rfl⟩
            have HB3 := Lib.hid (HB.out.trans (hb3.mono hz)); clear hb3
            go_wp2_with fail
            go_ret
            exact ⟨by rw [HN.out]; rfl, HW.out.trans (HB3.out.mono (by omega))⟩
          · have d1 : decide (x < 0) = false := decide_eq_false c1
            by_cases c2 : 6 < x
            · have HN := Lib.hid (Hbad.out (by rw [HT.out, decide_eq_false (by omega), Bool.false_and]))
              go_wp2_with fail
              refine wp_region_later (by kernel_rfl) (by kernel_rfl) ?_
              repeat (go_big_quiet_step (fail))
              refine wpQuiet_nil ?_
              rintro w2 ⟨⟨w3, hb3⟩, rfl⟩
              have HB3 := Lib.hid (HB.out.trans (hb3.mono hz)); clear hb3
              go_wp2_with fail
              go_ret
              exact ⟨by rw [HN.out]; rfl, HW.out.trans (HB3.out.mono (by omega))⟩
            · have d2 : decide (6 < x) = false := decide_eq_false c2
              go_wp2_with fail
              have e1 := Later.cell z1'
              have e3 := Later.cell z3
              have e4 := Later.cell y3
              refine wp_region_later (by kernel_rfl) (by kernel_rfl) ?_
              repeat (go_big_quiet_step ((go_at_call 51; exact Calls.later (row_any row vr x n1 _ (SR.out.mono mono_instr (Later.below _))) (fun _ _ h => h))))
              refine wpQuiet_nil ?_
              rintro w2 ⟨⟨w3, hb3⟩, rfl⟩
              clear e1 e3 e4
              have HB3 := Lib.hid (HB.out.trans (hb3.mono hz)); clear hb3
              cases hr : rowOk row x n1
              · have HN := Lib.hid (Hbad.out (by rw [HT.out, hr, Bool.and_false]))
                clear hr
                go_wp2_with fail
                go_ret
                exact ⟨by rw [HN.out]; rfl, HW.out.trans (HB3.out.mono (by omega))⟩
              · have HO := Lib.hid (show threadOk ⟨mod, init, regs, code⟩ k = true by rw [HT.out, hr, decide_eq_true (by omega)]; rfl)
                clear hr
                go_wp2_with fail
                go_roundw
                case rel => exact ⟨k + 1, by go_num, by omega, fun j h2 h3 => by
                  rcases Nat.lt_or_ge j k with h | h
                  · exact Hall.out j h2 h
                  · obtain rfl : j = k := by omega
                    exact HO.out, HB3.out⟩
                case measure => simp [intOf]; omega
        · have HG := Lib.hid (show res = true by rw [← HR.out]; exact rightU_good (u := ⟨mod, init, regs, code⟩) HH.out HI.out (fun j hj => Hall.out j hj (by have := N2.out; dsimp only at hj; omega)))
          go_wp2
          go_ret
          exact ⟨by rw [HG.out]; rfl, HW.out.trans (HB.out.mono (by omega))⟩

theorem lowRight_any (u : UnitS) (v : Value) (w : World) (hv : UnitV w v u) : Calls Try.prog 33 #[v] w (BoolBelow (rightU u) w) := by
  cases hh : headOk u
  · rw [rightU_head hh]; exact lowRight_head u v w hv hh
  · exact lowRight_main u v w hv hh

end Go.Proofs.Ytejkhpgahnncnaa
end

section
namespace Go.Proofs.Ytejkhpgahnncnaa
open Go.RowKit
set_option linter.unusedVariables false
set_option linter.unusedSimpArgs false

set_option maxHeartbeats 400000 in
theorem in07_any (a b : Int) (w : World) : Calls Try.prog 64 #[.int .i64 a, .int .i64 b] w fun e w' => e = .returned (.bool (inB a b)) ∧ w = w' := by
  go_enter Try.func64, Try.ntmps64
  go_wp2
  all_goals
    go_ret
    refine ⟨congrArg (fun b => Ending.returned (.bool b)) ?_, rfl⟩
    rw [Bool.eq_iff_iff]
    simp [inB]
    try omega

def hasB (s : ByteArray) (c : Int) : Bool := s.data.toList.any fun b => (b.toNat : Int) == c
theorem hasB_yes {s : ByteArray} {c : Int} {k : Nat} (hk : k < s.size) (h : (s[k].toNat : Int) = c) : hasB s c = true := by
  simp only [hasB, List.any_eq_true]
  exact ⟨s[k], by rw [Array.mem_toList_iff]; exact Array.getElem_mem hk, by simpa using h⟩
theorem hasB_no {s : ByteArray} {c : Int} (h : ∀ k (hk : k < s.size), (s[k].toNat : Int) ≠ c) : hasB s c = false := by
  rw [Bool.eq_false_iff]
  intro e
  simp only [hasB, List.any_eq_true] at e
  obtain ⟨x, hx, hc⟩ := e
  rw [Array.mem_toList_iff] at hx
  obtain ⟨k, hk, rfl⟩ := Array.getElem_of_mem hx
  exact h k hk (by rw [beq_iff_eq] at hc; exact hc)

set_option maxHeartbeats 1000000 in
theorem has_any (s : ByteArray) (c : Int) (w : World) (hs : s.size ≤ 1000) :
    Calls Try.prog 63 #[.string s, .int .u8 c] w fun e w' => e = .returned (.bool (hasB s c)) ∧ w = w' := by
  go_enter Try.func63, Try.ntmps63
  go_wp2
  go_loop [5] (fun i => ∃ k : Nat, i = .int .i64 k ∧ k ≤ s.size ∧ ∀ j (h : j < s.size), j < k → (s[j].toNat : Int) ≠ c) (fun i => s.size - (intOf i).toNat)
  case atStart => exact ⟨0, rfl, by omega, fun j _ h => absurd h (by omega)⟩
  case round =>
    obtain ⟨k, rfl, hk, hall⟩ := hrel
    have Hall := Lib.hid hall; clear hall
    by_cases hlt : k < s.size
    · by_cases h1 : (s[k].toNat : Int) = c
      · have HT := Lib.hid (hasB_yes hlt h1)
        have d1 : ((s[k].toNat : Int) == c) = true := by simpa using h1
        clear h1
        go_wp2
        go_ret
        exact ⟨by rw [HT.out]; rfl, rfl⟩
      · have H1 := Lib.hid h1
        have d1 : ((s[k].toNat : Int) == c) = false := by simpa using h1
        clear h1
        go_wp2
        go_round
        case rel => exact ⟨k + 1, by go_num, by omega, fun j h2 h3 => by
          rcases Nat.lt_or_ge j k with h | h
          · exact Hall.out j h2 h
          · obtain rfl : j = k := by omega
            exact H1.out⟩
        case measure => simp [intOf]; omega
    · have HF := Lib.hid (hasB_no (s := s) (c := c) fun j hj => Hall.out j hj (by omega))
      go_wp2
      go_ret
      exact ⟨by rw [HF.out]; rfl, rfl⟩

theorem has_lit (s : ByteArray) (c : Int) (b : Bool) (w : World) (hb : hasB s c = b) (hs : s.size ≤ 1000) : Calls Try.prog 63 #[.string s, .int .u8 c] w fun e w' => e = .returned (.bool b) ∧ w = w' := by
  rw [← hb]; exact has_any s c w hs

theorem and_no_e {a b c d e f : Bool} (h : e = false) : (a && b && c && d && e && f) = false := by rw [h]; simp
theorem and_no_f {a b c d e f : Bool} (h : f = false) : (a && b && c && d && e && f) = false := by rw [h]; simp
theorem codeB_no {l : List OpS} {regs : Int} {n : Nat} (h : l.length = n) (hn : 0 < n) : codeB false l regs = false := by
  cases l with
  | nil => simp at h; omega
  | cons _ _ => rfl
theorem codeB_nil {l : List OpS} {regs : Int} (h : l.length = 0) : codeB false l regs = true := by
  rw [List.length_eq_zero_iff.1 h]; rfl

def PartsIs (s : ByteArray) (b : Bool) (w : World) (e : Ending) (w' : World) : Prop := e = .returned (.tuple #[.string s, .bool b]) ∧ w = w'

set_option maxHeartbeats 400000 in
theorem parts_2 (w : World) : Calls Try.prog 62 #[.int .i64 2] w (PartsIs ⟨#[114, 101]⟩ true w) := by
  go_enter Try.func62, Try.ntmps62
  go_wp2
  go_ret2
  exact ⟨rfl, rfl⟩

set_option maxHeartbeats 400000 in
theorem parts_3 (w : World) : Calls Try.prog 62 #[.int .i64 3] w (PartsIs ⟨#[114, 108]⟩ true w) := by
  go_enter Try.func62, Try.ntmps62
  go_wp2
  go_ret2
  exact ⟨rfl, rfl⟩

set_option maxHeartbeats 400000 in
theorem parts_4 (w : World) : Calls Try.prog 62 #[.int .i64 4] w (PartsIs ⟨#[108, 101]⟩ true w) := by
  go_enter Try.func62, Try.ntmps62
  go_wp2
  go_ret2
  exact ⟨rfl, rfl⟩

set_option maxHeartbeats 400000 in
theorem parts_5 (w : World) : Calls Try.prog 62 #[.int .i64 5] w (PartsIs ⟨#[114, 108, 101, 102]⟩ true w) := by
  go_enter Try.func62, Try.ntmps62
  go_wp2
  go_ret2
  exact ⟨rfl, rfl⟩

set_option maxHeartbeats 400000 in
theorem parts_6 (w : World) : Calls Try.prog 62 #[.int .i64 6] w (PartsIs ⟨#[114, 108, 101]⟩ true w) := by
  go_enter Try.func62, Try.ntmps62
  go_wp2
  go_ret2
  exact ⟨rfl, rfl⟩

set_option maxHeartbeats 400000 in
theorem parts_7 (w : World) : Calls Try.prog 62 #[.int .i64 7] w (PartsIs ⟨#[114, 108, 101]⟩ true w) := by
  go_enter Try.func62, Try.ntmps62
  go_wp2
  go_ret2
  exact ⟨rfl, rfl⟩

set_option maxHeartbeats 400000 in
theorem parts_8 (w : World) : Calls Try.prog 62 #[.int .i64 8] w (PartsIs ⟨#[]⟩ true w) := by
  go_enter Try.func62, Try.ntmps62
  go_wp2
  go_ret2
  exact ⟨rfl, rfl⟩

set_option maxHeartbeats 400000 in
theorem parts_9 (w : World) : Calls Try.prog 62 #[.int .i64 9] w (PartsIs ⟨#[108, 101, 110]⟩ true w) := by
  go_enter Try.func62, Try.ntmps62
  go_wp2
  go_ret2
  exact ⟨rfl, rfl⟩

set_option maxHeartbeats 400000 in
theorem parts_20 (w : World) : Calls Try.prog 62 #[.int .i64 20] w (PartsIs ⟨#[116]⟩ true w) := by
  go_enter Try.func62, Try.ntmps62
  go_wp2
  go_ret2
  exact ⟨rfl, rfl⟩

set_option maxHeartbeats 400000 in
theorem parts_21 (w : World) : Calls Try.prog 62 #[.int .i64 21] w (PartsIs ⟨#[101, 116]⟩ true w) := by
  go_enter Try.func62, Try.ntmps62
  go_wp2
  go_ret2
  exact ⟨rfl, rfl⟩

theorem needs_no {op : Int} (h : needsOf op = none) : (op == 2) = false ∧ (op == 3) = false ∧ (op == 4) = false ∧ (op == 5) = false ∧ (op == 6) = false ∧ (op == 7) = false ∧ (op == 8) = false ∧ (op == 9) = false ∧ (op == 20) = false ∧ (op == 21) = false := by
  refine ⟨?_, ?_, ?_, ?_, ?_, ?_, ?_, ?_, ?_, ?_⟩
  all_goals
    apply ib_no
    rintro rfl
    simp [needsOf] at h

set_option maxHeartbeats 400000 in
theorem parts_none (op : Int) (w : World) (h : needsOf op = none) : Calls Try.prog 62 #[.int .i64 op] w (PartsIs ⟨#[]⟩ false w) := by
  obtain ⟨d2, d3, d4, d5, d6, d7, d8, d9, d20, d21⟩ := needs_no h
  clear h
  go_enter Try.func62, Try.ntmps62
  go_wp2
  go_ret2
  exact ⟨rfl, rfl⟩

set_option maxHeartbeats 400000 in
theorem done07_any (x : InstrS) (ve vf : Value) (w : World) (he : Sl rOp w ve x.e) (hf : Sl rOp w vf x.f) :
    Calls Try.prog 52 #[.agg #[.int .i64 x.op, .int .i64 x.reg, .int .i64 x.loc, ve, vf, .bool x.ne, .int .i64 x.goal]] w (BoolBelow (doneOk x) w) := by
  have hl1 := he.len
  have hl2 := hf.len
  obtain ⟨a, c, rfl, h1⟩ := ops_view he
  obtain ⟨a2, c2, rfl, h2⟩ := ops_view hf
  clear he hf h1 h2
  obtain ⟨op, reg, loc, le, lf, ne, goal⟩ := x
  cases ne
  all_goals
    go_enter Try.func52, Try.ntmps52
    go_wp2
    all_goals
      go_ret
      refine ⟨congrArg (fun b => Ending.returned (.bool b)) ?_, (Below.refl _ _).alloc (Nat.le_refl _) _⟩
      rw [Bool.eq_iff_iff]
      simp [doneOk, List.isEmpty_iff, ← List.length_eq_zero_iff]
      try first | omega | (intros; simp only [Go.RowKit.wrap64]; omega) | (intros; simp_all [List.length_eq_zero_iff])

end Go.Proofs.Ytejkhpgahnncnaa
end

section
namespace Go.Proofs.Ytejkhpgahnncnaa
open Go.RowKit
set_option linter.unusedVariables false
set_option linter.unusedSimpArgs false

set_option maxRecDepth 100000 in
set_option maxHeartbeats 4000000 in
theorem one07_2 (reg loc : Int) (le lf : List OpS) (ne : Bool) (goal : Int) (ve vf : Value) (regs locs many : Int) (w : World) (he : Sl rOp w ve le) (hf : Sl rOp w vf lf) :
    Calls Try.prog 53 #[.agg #[.int .i64 2, .int .i64 reg, .int .i64 loc, ve, vf, .bool ne, .int .i64 goal], .int .i64 regs, .int .i64 locs, .int .i64 many] w (BoolBelow (instrOk regs locs many ⟨2, reg, loc, le, lf, ne, goal⟩) w) := by
  have hl1 := he.len
  have hl2 := hf.len
  have HE := Lib.hid he; have HF := Lib.hid hf
  obtain ⟨ae, ce, rfl, h1⟩ := ops_view he
  obtain ⟨af, cf, rfl, h2⟩ := ops_view hf
  clear he hf h1 h2
  obtain ⟨n1, hn1⟩ : ∃ n, le.length = n := ⟨_, rfl⟩
  obtain ⟨n2, hn2⟩ : ∃ n, lf.length = n := ⟨_, rfl⟩
  rw [hn1] at hl1 HE ⊢
  rw [hn2] at hl2 HF ⊢
  have N1 := Lib.hid hn1; have N2 := Lib.hid hn2; clear hn1 hn2
  obtain ⟨res, hres⟩ : ∃ r, instrOk regs locs many ⟨2, reg, loc, le, lf, ne, goal⟩ = r := ⟨_, rfl⟩
  have HR : Hid (((!ne || false) && placeB true reg regs && placeB false loc locs && placeB false goal many && codeB true le regs && codeB false lf regs) = res) := hres
  rw [hres]
  clear hres
  have hB0 := Lib.hid (show Below w.heap.size w (w.alloc (.cells #[.int .i64 2, .int .i64 reg, .int .i64 loc, .slice ae n1 ce, .slice af n2 cf, .bool ne, .int .i64 goal] 55)) from (Below.refl _ _).alloc (Nat.le_refl _) _)
  cases pr : placeB true reg regs
  · have HN := Lib.hid (show res = false by rw [← HR.out, pr]; simp)
    have qr : inB reg regs = false := pr
    clear pr
    go_enter Try.func53, Try.ntmps53
    go_wp2_with (first
        | (go_at_call 62; refine (parts_2 _).mono ?_; rintro e w' ⟨rfl, rfl⟩)
        | (go_at_call 63; refine (has_lit _ _ true _ rfl (by decide)).mono ?_; rintro e w' ⟨rfl, rfl⟩)
        | (go_at_call 63; refine (has_lit _ _ false _ rfl (by decide)).mono ?_; rintro e w' ⟨rfl, rfl⟩)
        | (go_at_call 64; refine (in07_any _ _ _).mono ?_; rintro e w' ⟨rfl, rfl⟩))
    go_ret
    exact ⟨by rw [HN.out]; rfl, hB0.out⟩
  · have Pr := Lib.hid pr
    have qr : inB reg regs = true := pr
    clear pr
    cases pl : placeB false loc locs
    · have HN := Lib.hid (show res = false by rw [← HR.out, pl]; simp)
      have ql : (loc == 0) = false := by simpa [placeB] using pl
      have ql2 : (loc != 0) = true := by simpa [placeB] using pl
      clear pl
      go_enter Try.func53, Try.ntmps53
      go_wp2_with (first
          | (go_at_call 62; refine (parts_2 _).mono ?_; rintro e w' ⟨rfl, rfl⟩)
          | (go_at_call 63; refine (has_lit _ _ true _ rfl (by decide)).mono ?_; rintro e w' ⟨rfl, rfl⟩)
          | (go_at_call 63; refine (has_lit _ _ false _ rfl (by decide)).mono ?_; rintro e w' ⟨rfl, rfl⟩)
          | (go_at_call 64; refine (in07_any _ _ _).mono ?_; rintro e w' ⟨rfl, rfl⟩))
      go_ret
      exact ⟨by rw [HN.out]; rfl, hB0.out⟩
    · have Pl := Lib.hid pl
      have ql : (loc == 0) = true := by simpa [placeB] using pl
      have ql2 : (loc != 0) = false := by simpa [placeB] using pl
      clear pl
      cases pt : placeB false goal many
      · have HN := Lib.hid (show res = false by rw [← HR.out, pt]; simp)
        have qt : (goal == 0) = false := by simpa [placeB] using pt
        have qt2 : (goal != 0) = true := by simpa [placeB] using pt
        clear pt
        go_enter Try.func53, Try.ntmps53
        go_wp2_with (first
            | (go_at_call 62; refine (parts_2 _).mono ?_; rintro e w' ⟨rfl, rfl⟩)
            | (go_at_call 63; refine (has_lit _ _ true _ rfl (by decide)).mono ?_; rintro e w' ⟨rfl, rfl⟩)
            | (go_at_call 63; refine (has_lit _ _ false _ rfl (by decide)).mono ?_; rintro e w' ⟨rfl, rfl⟩)
            | (go_at_call 64; refine (in07_any _ _ _).mono ?_; rintro e w' ⟨rfl, rfl⟩))
        go_ret
        exact ⟨by rw [HN.out]; rfl, hB0.out⟩
      · have Pt := Lib.hid pt
        have qt : (goal == 0) = true := by simpa [placeB] using pt
        have qt2 : (goal != 0) = false := by simpa [placeB] using pt
        clear pt
        go_enter Try.func53, Try.ntmps53
        go_wp2_with (first
            | (go_at_call 62; refine (parts_2 _).mono ?_; rintro e w' ⟨rfl, rfl⟩)
            | (go_at_call 63; refine (has_lit _ _ true _ rfl (by decide)).mono ?_; rintro e w' ⟨rfl, rfl⟩)
            | (go_at_call 63; refine (has_lit _ _ false _ rfl (by decide)).mono ?_; rintro e w' ⟨rfl, rfl⟩)
            | (go_at_call 64; refine (in07_any _ _ _).mono ?_; rintro e w' ⟨rfl, rfl⟩))
        have c4 := new_cell w #[.int .i64 2, .int .i64 reg, .int .i64 loc, .slice ae n1 ce, .slice af n2 cf, .bool ne, .int .i64 goal] 55 4 _ rfl
        have c5 := new_cell w #[.int .i64 2, .int .i64 reg, .int .i64 loc, .slice ae n1 ce, .slice af n2 cf, .bool ne, .int .i64 goal] 55 5 _ rfl
        have hWs : w.heap.size < (w.alloc (.cells #[.int .i64 2, .int .i64 reg, .int .i64 loc, .slice ae n1 ce, .slice af n2 cf, .bool ne, .int .i64 goal] 55)).heap.size := by simp
        have HW := hB0
        clear hB0
        generalize w.alloc (.cells #[.int .i64 2, .int .i64 reg, .int .i64 loc, .slice ae n1 ce, .slice af n2 cf, .bool ne, .int .i64 goal] 55) = W at *
        refine (rightC06_any le [] regs 0 _ _ _ (HE.out.mono mono_op HW.out) (Sl.nil _ _)).mono ?_
        rintro e w2 ⟨rfl, hb⟩
        have r4 := cell_later hb c4
        have r5 := cell_later hb c5
        have HX := Lib.hid (HW.out.trans (hb.mono HW.out.size))
        have hW2 := hb.size
        clear hb c4 c5
        cases pe : rightC le [] regs 0
        · have HN := Lib.hid (show res = false from HR.out.symm.trans (and_no_e (e := codeB true le regs) pe))
          clear pe
          go_wp2_with (first
              | (go_at_call 62; refine (parts_2 _).mono ?_; rintro e w' ⟨rfl, rfl⟩)
              | (go_at_call 63; refine (has_lit _ _ true _ rfl (by decide)).mono ?_; rintro e w' ⟨rfl, rfl⟩)
              | (go_at_call 63; refine (has_lit _ _ false _ rfl (by decide)).mono ?_; rintro e w' ⟨rfl, rfl⟩)
              | (go_at_call 64; refine (in07_any _ _ _).mono ?_; rintro e w' ⟨rfl, rfl⟩))
          go_ret
          exact ⟨by rw [HN.out]; rfl, HX.out⟩
        · have PE : Hid (codeB true le regs = true) := pe
          clear pe
          by_cases pf : n2 = 0
          · have PF := Lib.hid (show codeB false lf regs = true from codeB_nil (N2.out.trans pf))
            subst pf
            cases ne
            all_goals
              go_wp2_with (first
                  | (go_at_call 62; refine (parts_2 _).mono ?_; rintro e w' ⟨rfl, rfl⟩)
                  | (go_at_call 63; refine (has_lit _ _ true _ rfl (by decide)).mono ?_; rintro e w' ⟨rfl, rfl⟩)
                  | (go_at_call 63; refine (has_lit _ _ false _ rfl (by decide)).mono ?_; rintro e w' ⟨rfl, rfl⟩)
                  | (go_at_call 64; refine (in07_any _ _ _).mono ?_; rintro e w' ⟨rfl, rfl⟩))
              go_ret
              exact ⟨by rw [← HR.out, Pr.out, Pl.out, Pt.out, PE.out, PF.out]; rfl, HX.out⟩
          · have HN := Lib.hid (show res = false from HR.out.symm.trans (and_no_f (codeB_no N2.out (by omega))))
            have g2 : 0 < n2 := by omega
            go_wp2_with (first
                | (go_at_call 62; refine (parts_2 _).mono ?_; rintro e w' ⟨rfl, rfl⟩)
                | (go_at_call 63; refine (has_lit _ _ true _ rfl (by decide)).mono ?_; rintro e w' ⟨rfl, rfl⟩)
                | (go_at_call 63; refine (has_lit _ _ false _ rfl (by decide)).mono ?_; rintro e w' ⟨rfl, rfl⟩)
                | (go_at_call 64; refine (in07_any _ _ _).mono ?_; rintro e w' ⟨rfl, rfl⟩))
            go_ret
            exact ⟨by rw [HN.out]; rfl, HX.out⟩

set_option maxRecDepth 100000 in
set_option maxHeartbeats 4000000 in
theorem one07_3 (reg loc : Int) (le lf : List OpS) (ne : Bool) (goal : Int) (ve vf : Value) (regs locs many : Int) (w : World) (he : Sl rOp w ve le) (hf : Sl rOp w vf lf) :
    Calls Try.prog 53 #[.agg #[.int .i64 3, .int .i64 reg, .int .i64 loc, ve, vf, .bool ne, .int .i64 goal], .int .i64 regs, .int .i64 locs, .int .i64 many] w (BoolBelow (instrOk regs locs many ⟨3, reg, loc, le, lf, ne, goal⟩) w) := by
  have hl1 := he.len
  have hl2 := hf.len
  have HE := Lib.hid he; have HF := Lib.hid hf
  obtain ⟨ae, ce, rfl, h1⟩ := ops_view he
  obtain ⟨af, cf, rfl, h2⟩ := ops_view hf
  clear he hf h1 h2
  obtain ⟨n1, hn1⟩ : ∃ n, le.length = n := ⟨_, rfl⟩
  obtain ⟨n2, hn2⟩ : ∃ n, lf.length = n := ⟨_, rfl⟩
  rw [hn1] at hl1 HE ⊢
  rw [hn2] at hl2 HF ⊢
  have N1 := Lib.hid hn1; have N2 := Lib.hid hn2; clear hn1 hn2
  obtain ⟨res, hres⟩ : ∃ r, instrOk regs locs many ⟨3, reg, loc, le, lf, ne, goal⟩ = r := ⟨_, rfl⟩
  have HR : Hid (((!ne || false) && placeB true reg regs && placeB true loc locs && placeB false goal many && codeB false le regs && codeB false lf regs) = res) := hres
  rw [hres]
  clear hres
  have hB0 := Lib.hid (show Below w.heap.size w (w.alloc (.cells #[.int .i64 3, .int .i64 reg, .int .i64 loc, .slice ae n1 ce, .slice af n2 cf, .bool ne, .int .i64 goal] 55)) from (Below.refl _ _).alloc (Nat.le_refl _) _)
  cases pr : placeB true reg regs
  · have HN := Lib.hid (show res = false by rw [← HR.out, pr]; simp)
    have qr : inB reg regs = false := pr
    clear pr
    go_enter Try.func53, Try.ntmps53
    go_wp2_with (first
        | (go_at_call 62; refine (parts_3 _).mono ?_; rintro e w' ⟨rfl, rfl⟩)
        | (go_at_call 63; refine (has_lit _ _ true _ rfl (by decide)).mono ?_; rintro e w' ⟨rfl, rfl⟩)
        | (go_at_call 63; refine (has_lit _ _ false _ rfl (by decide)).mono ?_; rintro e w' ⟨rfl, rfl⟩)
        | (go_at_call 64; refine (in07_any _ _ _).mono ?_; rintro e w' ⟨rfl, rfl⟩))
    go_ret
    exact ⟨by rw [HN.out]; rfl, hB0.out⟩
  · have Pr := Lib.hid pr
    have qr : inB reg regs = true := pr
    clear pr
    cases pl : placeB true loc locs
    · have HN := Lib.hid (show res = false by rw [← HR.out, pl]; simp)
      have ql : inB loc locs = false := pl
      clear pl
      go_enter Try.func53, Try.ntmps53
      go_wp2_with (first
          | (go_at_call 62; refine (parts_3 _).mono ?_; rintro e w' ⟨rfl, rfl⟩)
          | (go_at_call 63; refine (has_lit _ _ true _ rfl (by decide)).mono ?_; rintro e w' ⟨rfl, rfl⟩)
          | (go_at_call 63; refine (has_lit _ _ false _ rfl (by decide)).mono ?_; rintro e w' ⟨rfl, rfl⟩)
          | (go_at_call 64; refine (in07_any _ _ _).mono ?_; rintro e w' ⟨rfl, rfl⟩))
      go_ret
      exact ⟨by rw [HN.out]; rfl, hB0.out⟩
    · have Pl := Lib.hid pl
      have ql : inB loc locs = true := pl
      clear pl
      cases pt : placeB false goal many
      · have HN := Lib.hid (show res = false by rw [← HR.out, pt]; simp)
        have qt : (goal == 0) = false := by simpa [placeB] using pt
        have qt2 : (goal != 0) = true := by simpa [placeB] using pt
        clear pt
        go_enter Try.func53, Try.ntmps53
        go_wp2_with (first
            | (go_at_call 62; refine (parts_3 _).mono ?_; rintro e w' ⟨rfl, rfl⟩)
            | (go_at_call 63; refine (has_lit _ _ true _ rfl (by decide)).mono ?_; rintro e w' ⟨rfl, rfl⟩)
            | (go_at_call 63; refine (has_lit _ _ false _ rfl (by decide)).mono ?_; rintro e w' ⟨rfl, rfl⟩)
            | (go_at_call 64; refine (in07_any _ _ _).mono ?_; rintro e w' ⟨rfl, rfl⟩))
        go_ret
        exact ⟨by rw [HN.out]; rfl, hB0.out⟩
      · have Pt := Lib.hid pt
        have qt : (goal == 0) = true := by simpa [placeB] using pt
        have qt2 : (goal != 0) = false := by simpa [placeB] using pt
        clear pt
        by_cases pe : n1 = 0
        · have PE := Lib.hid (show codeB false le regs = true from codeB_nil (N1.out.trans pe))
          subst pe
          by_cases pf : n2 = 0
          · have PF := Lib.hid (show codeB false lf regs = true from codeB_nil (N2.out.trans pf))
            subst pf
            cases ne
            all_goals
              go_enter Try.func53, Try.ntmps53
              go_wp2_with (first
                  | (go_at_call 62; refine (parts_3 _).mono ?_; rintro e w' ⟨rfl, rfl⟩)
                  | (go_at_call 63; refine (has_lit _ _ true _ rfl (by decide)).mono ?_; rintro e w' ⟨rfl, rfl⟩)
                  | (go_at_call 63; refine (has_lit _ _ false _ rfl (by decide)).mono ?_; rintro e w' ⟨rfl, rfl⟩)
                  | (go_at_call 64; refine (in07_any _ _ _).mono ?_; rintro e w' ⟨rfl, rfl⟩))
              go_ret
              exact ⟨by rw [← HR.out, Pr.out, Pl.out, Pt.out, PE.out, PF.out]; rfl, hB0.out⟩
          · have HN := Lib.hid (show res = false from HR.out.symm.trans (and_no_f (codeB_no N2.out (by omega))))
            have g2 : 0 < n2 := by omega
            go_enter Try.func53, Try.ntmps53
            go_wp2_with (first
                | (go_at_call 62; refine (parts_3 _).mono ?_; rintro e w' ⟨rfl, rfl⟩)
                | (go_at_call 63; refine (has_lit _ _ true _ rfl (by decide)).mono ?_; rintro e w' ⟨rfl, rfl⟩)
                | (go_at_call 63; refine (has_lit _ _ false _ rfl (by decide)).mono ?_; rintro e w' ⟨rfl, rfl⟩)
                | (go_at_call 64; refine (in07_any _ _ _).mono ?_; rintro e w' ⟨rfl, rfl⟩))
            go_ret
            exact ⟨by rw [HN.out]; rfl, hB0.out⟩
        · have HN := Lib.hid (show res = false from HR.out.symm.trans (and_no_e (codeB_no N1.out (by omega))))
          have g1 : 0 < n1 := by omega
          go_enter Try.func53, Try.ntmps53
          go_wp2_with (first
              | (go_at_call 62; refine (parts_3 _).mono ?_; rintro e w' ⟨rfl, rfl⟩)
              | (go_at_call 63; refine (has_lit _ _ true _ rfl (by decide)).mono ?_; rintro e w' ⟨rfl, rfl⟩)
              | (go_at_call 63; refine (has_lit _ _ false _ rfl (by decide)).mono ?_; rintro e w' ⟨rfl, rfl⟩)
              | (go_at_call 64; refine (in07_any _ _ _).mono ?_; rintro e w' ⟨rfl, rfl⟩))
          go_ret
          exact ⟨by rw [HN.out]; rfl, hB0.out⟩

set_option maxRecDepth 100000 in
set_option maxHeartbeats 4000000 in
theorem one07_4 (reg loc : Int) (le lf : List OpS) (ne : Bool) (goal : Int) (ve vf : Value) (regs locs many : Int) (w : World) (he : Sl rOp w ve le) (hf : Sl rOp w vf lf) :
    Calls Try.prog 53 #[.agg #[.int .i64 4, .int .i64 reg, .int .i64 loc, ve, vf, .bool ne, .int .i64 goal], .int .i64 regs, .int .i64 locs, .int .i64 many] w (BoolBelow (instrOk regs locs many ⟨4, reg, loc, le, lf, ne, goal⟩) w) := by
  have hl1 := he.len
  have hl2 := hf.len
  have HE := Lib.hid he; have HF := Lib.hid hf
  obtain ⟨ae, ce, rfl, h1⟩ := ops_view he
  obtain ⟨af, cf, rfl, h2⟩ := ops_view hf
  clear he hf h1 h2
  obtain ⟨n1, hn1⟩ : ∃ n, le.length = n := ⟨_, rfl⟩
  obtain ⟨n2, hn2⟩ : ∃ n, lf.length = n := ⟨_, rfl⟩
  rw [hn1] at hl1 HE ⊢
  rw [hn2] at hl2 HF ⊢
  have N1 := Lib.hid hn1; have N2 := Lib.hid hn2; clear hn1 hn2
  obtain ⟨res, hres⟩ : ∃ r, instrOk regs locs many ⟨4, reg, loc, le, lf, ne, goal⟩ = r := ⟨_, rfl⟩
  have HR : Hid (((!ne || false) && placeB false reg regs && placeB true loc locs && placeB false goal many && codeB true le regs && codeB false lf regs) = res) := hres
  rw [hres]
  clear hres
  have hB0 := Lib.hid (show Below w.heap.size w (w.alloc (.cells #[.int .i64 4, .int .i64 reg, .int .i64 loc, .slice ae n1 ce, .slice af n2 cf, .bool ne, .int .i64 goal] 55)) from (Below.refl _ _).alloc (Nat.le_refl _) _)
  cases pr : placeB false reg regs
  · have HN := Lib.hid (show res = false by rw [← HR.out, pr]; simp)
    have qr : (reg == 0) = false := by simpa [placeB] using pr
    have qr2 : (reg != 0) = true := by simpa [placeB] using pr
    clear pr
    go_enter Try.func53, Try.ntmps53
    go_wp2_with (first
        | (go_at_call 62; refine (parts_4 _).mono ?_; rintro e w' ⟨rfl, rfl⟩)
        | (go_at_call 63; refine (has_lit _ _ true _ rfl (by decide)).mono ?_; rintro e w' ⟨rfl, rfl⟩)
        | (go_at_call 63; refine (has_lit _ _ false _ rfl (by decide)).mono ?_; rintro e w' ⟨rfl, rfl⟩)
        | (go_at_call 64; refine (in07_any _ _ _).mono ?_; rintro e w' ⟨rfl, rfl⟩))
    go_ret
    exact ⟨by rw [HN.out]; rfl, hB0.out⟩
  · have Pr := Lib.hid pr
    have qr : (reg == 0) = true := by simpa [placeB] using pr
    have qr2 : (reg != 0) = false := by simpa [placeB] using pr
    clear pr
    cases pl : placeB true loc locs
    · have HN := Lib.hid (show res = false by rw [← HR.out, pl]; simp)
      have ql : inB loc locs = false := pl
      clear pl
      go_enter Try.func53, Try.ntmps53
      go_wp2_with (first
          | (go_at_call 62; refine (parts_4 _).mono ?_; rintro e w' ⟨rfl, rfl⟩)
          | (go_at_call 63; refine (has_lit _ _ true _ rfl (by decide)).mono ?_; rintro e w' ⟨rfl, rfl⟩)
          | (go_at_call 63; refine (has_lit _ _ false _ rfl (by decide)).mono ?_; rintro e w' ⟨rfl, rfl⟩)
          | (go_at_call 64; refine (in07_any _ _ _).mono ?_; rintro e w' ⟨rfl, rfl⟩))
      go_ret
      exact ⟨by rw [HN.out]; rfl, hB0.out⟩
    · have Pl := Lib.hid pl
      have ql : inB loc locs = true := pl
      clear pl
      cases pt : placeB false goal many
      · have HN := Lib.hid (show res = false by rw [← HR.out, pt]; simp)
        have qt : (goal == 0) = false := by simpa [placeB] using pt
        have qt2 : (goal != 0) = true := by simpa [placeB] using pt
        clear pt
        go_enter Try.func53, Try.ntmps53
        go_wp2_with (first
            | (go_at_call 62; refine (parts_4 _).mono ?_; rintro e w' ⟨rfl, rfl⟩)
            | (go_at_call 63; refine (has_lit _ _ true _ rfl (by decide)).mono ?_; rintro e w' ⟨rfl, rfl⟩)
            | (go_at_call 63; refine (has_lit _ _ false _ rfl (by decide)).mono ?_; rintro e w' ⟨rfl, rfl⟩)
            | (go_at_call 64; refine (in07_any _ _ _).mono ?_; rintro e w' ⟨rfl, rfl⟩))
        go_ret
        exact ⟨by rw [HN.out]; rfl, hB0.out⟩
      · have Pt := Lib.hid pt
        have qt : (goal == 0) = true := by simpa [placeB] using pt
        have qt2 : (goal != 0) = false := by simpa [placeB] using pt
        clear pt
        go_enter Try.func53, Try.ntmps53
        go_wp2_with (first
            | (go_at_call 62; refine (parts_4 _).mono ?_; rintro e w' ⟨rfl, rfl⟩)
            | (go_at_call 63; refine (has_lit _ _ true _ rfl (by decide)).mono ?_; rintro e w' ⟨rfl, rfl⟩)
            | (go_at_call 63; refine (has_lit _ _ false _ rfl (by decide)).mono ?_; rintro e w' ⟨rfl, rfl⟩)
            | (go_at_call 64; refine (in07_any _ _ _).mono ?_; rintro e w' ⟨rfl, rfl⟩))
        have c4 := new_cell w #[.int .i64 4, .int .i64 reg, .int .i64 loc, .slice ae n1 ce, .slice af n2 cf, .bool ne, .int .i64 goal] 55 4 _ rfl
        have c5 := new_cell w #[.int .i64 4, .int .i64 reg, .int .i64 loc, .slice ae n1 ce, .slice af n2 cf, .bool ne, .int .i64 goal] 55 5 _ rfl
        have hWs : w.heap.size < (w.alloc (.cells #[.int .i64 4, .int .i64 reg, .int .i64 loc, .slice ae n1 ce, .slice af n2 cf, .bool ne, .int .i64 goal] 55)).heap.size := by simp
        have HW := hB0
        clear hB0
        generalize w.alloc (.cells #[.int .i64 4, .int .i64 reg, .int .i64 loc, .slice ae n1 ce, .slice af n2 cf, .bool ne, .int .i64 goal] 55) = W at *
        refine (rightC06_any le [] regs 0 _ _ _ (HE.out.mono mono_op HW.out) (Sl.nil _ _)).mono ?_
        rintro e w2 ⟨rfl, hb⟩
        have r4 := cell_later hb c4
        have r5 := cell_later hb c5
        have HX := Lib.hid (HW.out.trans (hb.mono HW.out.size))
        have hW2 := hb.size
        clear hb c4 c5
        cases pe : rightC le [] regs 0
        · have HN := Lib.hid (show res = false from HR.out.symm.trans (and_no_e (e := codeB true le regs) pe))
          clear pe
          go_wp2_with (first
              | (go_at_call 62; refine (parts_4 _).mono ?_; rintro e w' ⟨rfl, rfl⟩)
              | (go_at_call 63; refine (has_lit _ _ true _ rfl (by decide)).mono ?_; rintro e w' ⟨rfl, rfl⟩)
              | (go_at_call 63; refine (has_lit _ _ false _ rfl (by decide)).mono ?_; rintro e w' ⟨rfl, rfl⟩)
              | (go_at_call 64; refine (in07_any _ _ _).mono ?_; rintro e w' ⟨rfl, rfl⟩))
          go_ret
          exact ⟨by rw [HN.out]; rfl, HX.out⟩
        · have PE : Hid (codeB true le regs = true) := pe
          clear pe
          by_cases pf : n2 = 0
          · have PF := Lib.hid (show codeB false lf regs = true from codeB_nil (N2.out.trans pf))
            subst pf
            cases ne
            all_goals
              go_wp2_with (first
                  | (go_at_call 62; refine (parts_4 _).mono ?_; rintro e w' ⟨rfl, rfl⟩)
                  | (go_at_call 63; refine (has_lit _ _ true _ rfl (by decide)).mono ?_; rintro e w' ⟨rfl, rfl⟩)
                  | (go_at_call 63; refine (has_lit _ _ false _ rfl (by decide)).mono ?_; rintro e w' ⟨rfl, rfl⟩)
                  | (go_at_call 64; refine (in07_any _ _ _).mono ?_; rintro e w' ⟨rfl, rfl⟩))
              go_ret
              exact ⟨by rw [← HR.out, Pr.out, Pl.out, Pt.out, PE.out, PF.out]; rfl, HX.out⟩
          · have HN := Lib.hid (show res = false from HR.out.symm.trans (and_no_f (codeB_no N2.out (by omega))))
            have g2 : 0 < n2 := by omega
            go_wp2_with (first
                | (go_at_call 62; refine (parts_4 _).mono ?_; rintro e w' ⟨rfl, rfl⟩)
                | (go_at_call 63; refine (has_lit _ _ true _ rfl (by decide)).mono ?_; rintro e w' ⟨rfl, rfl⟩)
                | (go_at_call 63; refine (has_lit _ _ false _ rfl (by decide)).mono ?_; rintro e w' ⟨rfl, rfl⟩)
                | (go_at_call 64; refine (in07_any _ _ _).mono ?_; rintro e w' ⟨rfl, rfl⟩))
            go_ret
            exact ⟨by rw [HN.out]; rfl, HX.out⟩

set_option maxRecDepth 100000 in
set_option maxHeartbeats 4000000 in
theorem one07_8 (reg loc : Int) (le lf : List OpS) (ne : Bool) (goal : Int) (ve vf : Value) (regs locs many : Int) (w : World) (he : Sl rOp w ve le) (hf : Sl rOp w vf lf) :
    Calls Try.prog 53 #[.agg #[.int .i64 8, .int .i64 reg, .int .i64 loc, ve, vf, .bool ne, .int .i64 goal], .int .i64 regs, .int .i64 locs, .int .i64 many] w (BoolBelow (instrOk regs locs many ⟨8, reg, loc, le, lf, ne, goal⟩) w) := by
  have hl1 := he.len
  have hl2 := hf.len
  have HE := Lib.hid he; have HF := Lib.hid hf
  obtain ⟨ae, ce, rfl, h1⟩ := ops_view he
  obtain ⟨af, cf, rfl, h2⟩ := ops_view hf
  clear he hf h1 h2
  obtain ⟨n1, hn1⟩ : ∃ n, le.length = n := ⟨_, rfl⟩
  obtain ⟨n2, hn2⟩ : ∃ n, lf.length = n := ⟨_, rfl⟩
  rw [hn1] at hl1 HE ⊢
  rw [hn2] at hl2 HF ⊢
  have N1 := Lib.hid hn1; have N2 := Lib.hid hn2; clear hn1 hn2
  obtain ⟨res, hres⟩ : ∃ r, instrOk regs locs many ⟨8, reg, loc, le, lf, ne, goal⟩ = r := ⟨_, rfl⟩
  have HR : Hid (((!ne || false) && placeB false reg regs && placeB false loc locs && placeB false goal many && codeB false le regs && codeB false lf regs) = res) := hres
  rw [hres]
  clear hres
  have hB0 := Lib.hid (show Below w.heap.size w (w.alloc (.cells #[.int .i64 8, .int .i64 reg, .int .i64 loc, .slice ae n1 ce, .slice af n2 cf, .bool ne, .int .i64 goal] 55)) from (Below.refl _ _).alloc (Nat.le_refl _) _)
  cases pr : placeB false reg regs
  · have HN := Lib.hid (show res = false by rw [← HR.out, pr]; simp)
    have qr : (reg == 0) = false := by simpa [placeB] using pr
    have qr2 : (reg != 0) = true := by simpa [placeB] using pr
    clear pr
    go_enter Try.func53, Try.ntmps53
    go_wp2_with (first
        | (go_at_call 62; refine (parts_8 _).mono ?_; rintro e w' ⟨rfl, rfl⟩)
        | (go_at_call 63; refine (has_lit _ _ true _ rfl (by decide)).mono ?_; rintro e w' ⟨rfl, rfl⟩)
        | (go_at_call 63; refine (has_lit _ _ false _ rfl (by decide)).mono ?_; rintro e w' ⟨rfl, rfl⟩)
        | (go_at_call 64; refine (in07_any _ _ _).mono ?_; rintro e w' ⟨rfl, rfl⟩))
    go_ret
    exact ⟨by rw [HN.out]; rfl, hB0.out⟩
  · have Pr := Lib.hid pr
    have qr : (reg == 0) = true := by simpa [placeB] using pr
    have qr2 : (reg != 0) = false := by simpa [placeB] using pr
    clear pr
    cases pl : placeB false loc locs
    · have HN := Lib.hid (show res = false by rw [← HR.out, pl]; simp)
      have ql : (loc == 0) = false := by simpa [placeB] using pl
      have ql2 : (loc != 0) = true := by simpa [placeB] using pl
      clear pl
      go_enter Try.func53, Try.ntmps53
      go_wp2_with (first
          | (go_at_call 62; refine (parts_8 _).mono ?_; rintro e w' ⟨rfl, rfl⟩)
          | (go_at_call 63; refine (has_lit _ _ true _ rfl (by decide)).mono ?_; rintro e w' ⟨rfl, rfl⟩)
          | (go_at_call 63; refine (has_lit _ _ false _ rfl (by decide)).mono ?_; rintro e w' ⟨rfl, rfl⟩)
          | (go_at_call 64; refine (in07_any _ _ _).mono ?_; rintro e w' ⟨rfl, rfl⟩))
      go_ret
      exact ⟨by rw [HN.out]; rfl, hB0.out⟩
    · have Pl := Lib.hid pl
      have ql : (loc == 0) = true := by simpa [placeB] using pl
      have ql2 : (loc != 0) = false := by simpa [placeB] using pl
      clear pl
      cases pt : placeB false goal many
      · have HN := Lib.hid (show res = false by rw [← HR.out, pt]; simp)
        have qt : (goal == 0) = false := by simpa [placeB] using pt
        have qt2 : (goal != 0) = true := by simpa [placeB] using pt
        clear pt
        go_enter Try.func53, Try.ntmps53
        go_wp2_with (first
            | (go_at_call 62; refine (parts_8 _).mono ?_; rintro e w' ⟨rfl, rfl⟩)
            | (go_at_call 63; refine (has_lit _ _ true _ rfl (by decide)).mono ?_; rintro e w' ⟨rfl, rfl⟩)
            | (go_at_call 63; refine (has_lit _ _ false _ rfl (by decide)).mono ?_; rintro e w' ⟨rfl, rfl⟩)
            | (go_at_call 64; refine (in07_any _ _ _).mono ?_; rintro e w' ⟨rfl, rfl⟩))
        go_ret
        exact ⟨by rw [HN.out]; rfl, hB0.out⟩
      · have Pt := Lib.hid pt
        have qt : (goal == 0) = true := by simpa [placeB] using pt
        have qt2 : (goal != 0) = false := by simpa [placeB] using pt
        clear pt
        by_cases pe : n1 = 0
        · have PE := Lib.hid (show codeB false le regs = true from codeB_nil (N1.out.trans pe))
          subst pe
          by_cases pf : n2 = 0
          · have PF := Lib.hid (show codeB false lf regs = true from codeB_nil (N2.out.trans pf))
            subst pf
            cases ne
            all_goals
              go_enter Try.func53, Try.ntmps53
              go_wp2_with (first
                  | (go_at_call 62; refine (parts_8 _).mono ?_; rintro e w' ⟨rfl, rfl⟩)
                  | (go_at_call 63; refine (has_lit _ _ true _ rfl (by decide)).mono ?_; rintro e w' ⟨rfl, rfl⟩)
                  | (go_at_call 63; refine (has_lit _ _ false _ rfl (by decide)).mono ?_; rintro e w' ⟨rfl, rfl⟩)
                  | (go_at_call 64; refine (in07_any _ _ _).mono ?_; rintro e w' ⟨rfl, rfl⟩))
              go_ret
              exact ⟨by rw [← HR.out, Pr.out, Pl.out, Pt.out, PE.out, PF.out]; rfl, hB0.out⟩
          · have HN := Lib.hid (show res = false from HR.out.symm.trans (and_no_f (codeB_no N2.out (by omega))))
            have g2 : 0 < n2 := by omega
            go_enter Try.func53, Try.ntmps53
            go_wp2_with (first
                | (go_at_call 62; refine (parts_8 _).mono ?_; rintro e w' ⟨rfl, rfl⟩)
                | (go_at_call 63; refine (has_lit _ _ true _ rfl (by decide)).mono ?_; rintro e w' ⟨rfl, rfl⟩)
                | (go_at_call 63; refine (has_lit _ _ false _ rfl (by decide)).mono ?_; rintro e w' ⟨rfl, rfl⟩)
                | (go_at_call 64; refine (in07_any _ _ _).mono ?_; rintro e w' ⟨rfl, rfl⟩))
            go_ret
            exact ⟨by rw [HN.out]; rfl, hB0.out⟩
        · have HN := Lib.hid (show res = false from HR.out.symm.trans (and_no_e (codeB_no N1.out (by omega))))
          have g1 : 0 < n1 := by omega
          go_enter Try.func53, Try.ntmps53
          go_wp2_with (first
              | (go_at_call 62; refine (parts_8 _).mono ?_; rintro e w' ⟨rfl, rfl⟩)
              | (go_at_call 63; refine (has_lit _ _ true _ rfl (by decide)).mono ?_; rintro e w' ⟨rfl, rfl⟩)
              | (go_at_call 63; refine (has_lit _ _ false _ rfl (by decide)).mono ?_; rintro e w' ⟨rfl, rfl⟩)
              | (go_at_call 64; refine (in07_any _ _ _).mono ?_; rintro e w' ⟨rfl, rfl⟩))
          go_ret
          exact ⟨by rw [HN.out]; rfl, hB0.out⟩

end Go.Proofs.Ytejkhpgahnncnaa
end

section
namespace Go.Proofs.Ytejkhpgahnncnaa
open Go.RowKit
set_option linter.unusedVariables false
set_option linter.unusedSimpArgs false

set_option maxRecDepth 100000 in
set_option maxHeartbeats 4000000 in
theorem one07_5 (reg loc : Int) (le lf : List OpS) (ne : Bool) (goal : Int) (ve vf : Value) (regs locs many : Int) (w : World) (he : Sl rOp w ve le) (hf : Sl rOp w vf lf) :
    Calls Try.prog 53 #[.agg #[.int .i64 5, .int .i64 reg, .int .i64 loc, ve, vf, .bool ne, .int .i64 goal], .int .i64 regs, .int .i64 locs, .int .i64 many] w (BoolBelow (instrOk regs locs many ⟨5, reg, loc, le, lf, ne, goal⟩) w) := by
  have hl1 := he.len
  have hl2 := hf.len
  have HE := Lib.hid he; have HF := Lib.hid hf
  obtain ⟨ae, ce, rfl, h1⟩ := ops_view he
  obtain ⟨af, cf, rfl, h2⟩ := ops_view hf
  clear he hf h1 h2
  obtain ⟨n1, hn1⟩ : ∃ n, le.length = n := ⟨_, rfl⟩
  obtain ⟨n2, hn2⟩ : ∃ n, lf.length = n := ⟨_, rfl⟩
  rw [hn1] at hl1 HE ⊢
  rw [hn2] at hl2 HF ⊢
  have N1 := Lib.hid hn1; have N2 := Lib.hid hn2; clear hn1 hn2
  obtain ⟨res, hres⟩ : ∃ r, instrOk regs locs many ⟨5, reg, loc, le, lf, ne, goal⟩ = r := ⟨_, rfl⟩
  have HR : Hid (((!ne || false) && placeB true reg regs && placeB true loc locs && placeB false goal many && codeB true le regs && codeB true lf regs) = res) := hres
  rw [hres]
  clear hres
  have hB0 := Lib.hid (show Below w.heap.size w (w.alloc (.cells #[.int .i64 5, .int .i64 reg, .int .i64 loc, .slice ae n1 ce, .slice af n2 cf, .bool ne, .int .i64 goal] 55)) from (Below.refl _ _).alloc (Nat.le_refl _) _)
  cases pr : placeB true reg regs
  · have HN := Lib.hid (show res = false by rw [← HR.out, pr]; simp)
    have qr : inB reg regs = false := pr
    clear pr
    go_enter Try.func53, Try.ntmps53
    go_wp2_with (first
        | (go_at_call 62; refine (parts_5 _).mono ?_; rintro e w' ⟨rfl, rfl⟩)
        | (go_at_call 63; refine (has_lit _ _ true _ rfl (by decide)).mono ?_; rintro e w' ⟨rfl, rfl⟩)
        | (go_at_call 63; refine (has_lit _ _ false _ rfl (by decide)).mono ?_; rintro e w' ⟨rfl, rfl⟩)
        | (go_at_call 64; refine (in07_any _ _ _).mono ?_; rintro e w' ⟨rfl, rfl⟩))
    go_ret
    exact ⟨by rw [HN.out]; rfl, hB0.out⟩
  · have Pr := Lib.hid pr
    have qr : inB reg regs = true := pr
    clear pr
    cases pl : placeB true loc locs
    · have HN := Lib.hid (show res = false by rw [← HR.out, pl]; simp)
      have ql : inB loc locs = false := pl
      clear pl
      go_enter Try.func53, Try.ntmps53
      go_wp2_with (first
          | (go_at_call 62; refine (parts_5 _).mono ?_; rintro e w' ⟨rfl, rfl⟩)
          | (go_at_call 63; refine (has_lit _ _ true _ rfl (by decide)).mono ?_; rintro e w' ⟨rfl, rfl⟩)
          | (go_at_call 63; refine (has_lit _ _ false _ rfl (by decide)).mono ?_; rintro e w' ⟨rfl, rfl⟩)
          | (go_at_call 64; refine (in07_any _ _ _).mono ?_; rintro e w' ⟨rfl, rfl⟩))
      go_ret
      exact ⟨by rw [HN.out]; rfl, hB0.out⟩
    · have Pl := Lib.hid pl
      have ql : inB loc locs = true := pl
      clear pl
      cases pt : placeB false goal many
      · have HN := Lib.hid (show res = false by rw [← HR.out, pt]; simp)
        have qt : (goal == 0) = false := by simpa [placeB] using pt
        have qt2 : (goal != 0) = true := by simpa [placeB] using pt
        clear pt
        go_enter Try.func53, Try.ntmps53
        go_wp2_with (first
            | (go_at_call 62; refine (parts_5 _).mono ?_; rintro e w' ⟨rfl, rfl⟩)
            | (go_at_call 63; refine (has_lit _ _ true _ rfl (by decide)).mono ?_; rintro e w' ⟨rfl, rfl⟩)
            | (go_at_call 63; refine (has_lit _ _ false _ rfl (by decide)).mono ?_; rintro e w' ⟨rfl, rfl⟩)
            | (go_at_call 64; refine (in07_any _ _ _).mono ?_; rintro e w' ⟨rfl, rfl⟩))
        go_ret
        exact ⟨by rw [HN.out]; rfl, hB0.out⟩
      · have Pt := Lib.hid pt
        have qt : (goal == 0) = true := by simpa [placeB] using pt
        have qt2 : (goal != 0) = false := by simpa [placeB] using pt
        clear pt
        go_enter Try.func53, Try.ntmps53
        go_wp2_with (first
            | (go_at_call 62; refine (parts_5 _).mono ?_; rintro e w' ⟨rfl, rfl⟩)
            | (go_at_call 63; refine (has_lit _ _ true _ rfl (by decide)).mono ?_; rintro e w' ⟨rfl, rfl⟩)
            | (go_at_call 63; refine (has_lit _ _ false _ rfl (by decide)).mono ?_; rintro e w' ⟨rfl, rfl⟩)
            | (go_at_call 64; refine (in07_any _ _ _).mono ?_; rintro e w' ⟨rfl, rfl⟩))
        have c4 := new_cell w #[.int .i64 5, .int .i64 reg, .int .i64 loc, .slice ae n1 ce, .slice af n2 cf, .bool ne, .int .i64 goal] 55 4 _ rfl
        have c5 := new_cell w #[.int .i64 5, .int .i64 reg, .int .i64 loc, .slice ae n1 ce, .slice af n2 cf, .bool ne, .int .i64 goal] 55 5 _ rfl
        have hWs : w.heap.size < (w.alloc (.cells #[.int .i64 5, .int .i64 reg, .int .i64 loc, .slice ae n1 ce, .slice af n2 cf, .bool ne, .int .i64 goal] 55)).heap.size := by simp
        have HW := hB0
        clear hB0
        generalize w.alloc (.cells #[.int .i64 5, .int .i64 reg, .int .i64 loc, .slice ae n1 ce, .slice af n2 cf, .bool ne, .int .i64 goal] 55) = W at *
        refine (rightC06_any le [] regs 0 _ _ _ (HE.out.mono mono_op HW.out) (Sl.nil _ _)).mono ?_
        rintro e w2 ⟨rfl, hb⟩
        have r4 := cell_later hb c4
        have r5 := cell_later hb c5
        have HX := Lib.hid (HW.out.trans (hb.mono HW.out.size))
        have hW2 := hb.size
        clear hb c4 c5
        cases pe : rightC le [] regs 0
        · have HN := Lib.hid (show res = false from HR.out.symm.trans (and_no_e (e := codeB true le regs) pe))
          clear pe
          go_wp2_with (first
              | (go_at_call 62; refine (parts_5 _).mono ?_; rintro e w' ⟨rfl, rfl⟩)
              | (go_at_call 63; refine (has_lit _ _ true _ rfl (by decide)).mono ?_; rintro e w' ⟨rfl, rfl⟩)
              | (go_at_call 63; refine (has_lit _ _ false _ rfl (by decide)).mono ?_; rintro e w' ⟨rfl, rfl⟩)
              | (go_at_call 64; refine (in07_any _ _ _).mono ?_; rintro e w' ⟨rfl, rfl⟩))
          go_ret
          exact ⟨by rw [HN.out]; rfl, HX.out⟩
        · have PE : Hid (codeB true le regs = true) := pe
          clear pe
          go_wp2_with (first
              | (go_at_call 62; refine (parts_5 _).mono ?_; rintro e w' ⟨rfl, rfl⟩)
              | (go_at_call 63; refine (has_lit _ _ true _ rfl (by decide)).mono ?_; rintro e w' ⟨rfl, rfl⟩)
              | (go_at_call 63; refine (has_lit _ _ false _ rfl (by decide)).mono ?_; rintro e w' ⟨rfl, rfl⟩)
              | (go_at_call 64; refine (in07_any _ _ _).mono ?_; rintro e w' ⟨rfl, rfl⟩))
          refine (rightC06_any lf [] regs 0 _ _ _ (HF.out.mono mono_op HX.out) (Sl.nil _ _)).mono ?_
          rintro e w3 ⟨rfl, hb⟩
          have s5 := cell_later hb r5
          have HY := Lib.hid (HX.out.trans (hb.mono HX.out.size))
          clear hb r4 r5
          cases pf : rightC lf [] regs 0
          · have HN := Lib.hid (show res = false from HR.out.symm.trans (and_no_f (f := codeB true lf regs) pf))
            clear pf
            go_wp2_with (first
                | (go_at_call 62; refine (parts_5 _).mono ?_; rintro e w' ⟨rfl, rfl⟩)
                | (go_at_call 63; refine (has_lit _ _ true _ rfl (by decide)).mono ?_; rintro e w' ⟨rfl, rfl⟩)
                | (go_at_call 63; refine (has_lit _ _ false _ rfl (by decide)).mono ?_; rintro e w' ⟨rfl, rfl⟩)
                | (go_at_call 64; refine (in07_any _ _ _).mono ?_; rintro e w' ⟨rfl, rfl⟩))
            go_ret
            exact ⟨by rw [HN.out]; rfl, HY.out⟩
          · have PF : Hid (codeB true lf regs = true) := pf
            clear pf
            cases ne
            all_goals
              go_wp2_with (first
                  | (go_at_call 62; refine (parts_5 _).mono ?_; rintro e w' ⟨rfl, rfl⟩)
                  | (go_at_call 63; refine (has_lit _ _ true _ rfl (by decide)).mono ?_; rintro e w' ⟨rfl, rfl⟩)
                  | (go_at_call 63; refine (has_lit _ _ false _ rfl (by decide)).mono ?_; rintro e w' ⟨rfl, rfl⟩)
                  | (go_at_call 64; refine (in07_any _ _ _).mono ?_; rintro e w' ⟨rfl, rfl⟩))
              go_ret
              exact ⟨by rw [← HR.out, Pr.out, Pl.out, Pt.out, PE.out, PF.out]; rfl, HY.out⟩

set_option maxRecDepth 100000 in
set_option maxHeartbeats 4000000 in
theorem one07_6 (reg loc : Int) (le lf : List OpS) (ne : Bool) (goal : Int) (ve vf : Value) (regs locs many : Int) (w : World) (he : Sl rOp w ve le) (hf : Sl rOp w vf lf) :
    Calls Try.prog 53 #[.agg #[.int .i64 6, .int .i64 reg, .int .i64 loc, ve, vf, .bool ne, .int .i64 goal], .int .i64 regs, .int .i64 locs, .int .i64 many] w (BoolBelow (instrOk regs locs many ⟨6, reg, loc, le, lf, ne, goal⟩) w) := by
  have hl1 := he.len
  have hl2 := hf.len
  have HE := Lib.hid he; have HF := Lib.hid hf
  obtain ⟨ae, ce, rfl, h1⟩ := ops_view he
  obtain ⟨af, cf, rfl, h2⟩ := ops_view hf
  clear he hf h1 h2
  obtain ⟨n1, hn1⟩ : ∃ n, le.length = n := ⟨_, rfl⟩
  obtain ⟨n2, hn2⟩ : ∃ n, lf.length = n := ⟨_, rfl⟩
  rw [hn1] at hl1 HE ⊢
  rw [hn2] at hl2 HF ⊢
  have N1 := Lib.hid hn1; have N2 := Lib.hid hn2; clear hn1 hn2
  obtain ⟨res, hres⟩ : ∃ r, instrOk regs locs many ⟨6, reg, loc, le, lf, ne, goal⟩ = r := ⟨_, rfl⟩
  have HR : Hid (((!ne || false) && placeB true reg regs && placeB true loc locs && placeB false goal many && codeB true le regs && codeB false lf regs) = res) := hres
  rw [hres]
  clear hres
  have hB0 := Lib.hid (show Below w.heap.size w (w.alloc (.cells #[.int .i64 6, .int .i64 reg, .int .i64 loc, .slice ae n1 ce, .slice af n2 cf, .bool ne, .int .i64 goal] 55)) from (Below.refl _ _).alloc (Nat.le_refl _) _)
  cases pr : placeB true reg regs
  · have HN := Lib.hid (show res = false by rw [← HR.out, pr]; simp)
    have qr : inB reg regs = false := pr
    clear pr
    go_enter Try.func53, Try.ntmps53
    go_wp2_with (first
        | (go_at_call 62; refine (parts_6 _).mono ?_; rintro e w' ⟨rfl, rfl⟩)
        | (go_at_call 63; refine (has_lit _ _ true _ rfl (by decide)).mono ?_; rintro e w' ⟨rfl, rfl⟩)
        | (go_at_call 63; refine (has_lit _ _ false _ rfl (by decide)).mono ?_; rintro e w' ⟨rfl, rfl⟩)
        | (go_at_call 64; refine (in07_any _ _ _).mono ?_; rintro e w' ⟨rfl, rfl⟩))
    go_ret
    exact ⟨by rw [HN.out]; rfl, hB0.out⟩
  · have Pr := Lib.hid pr
    have qr : inB reg regs = true := pr
    clear pr
    cases pl : placeB true loc locs
    · have HN := Lib.hid (show res = false by rw [← HR.out, pl]; simp)
      have ql : inB loc locs = false := pl
      clear pl
      go_enter Try.func53, Try.ntmps53
      go_wp2_with (first
          | (go_at_call 62; refine (parts_6 _).mono ?_; rintro e w' ⟨rfl, rfl⟩)
          | (go_at_call 63; refine (has_lit _ _ true _ rfl (by decide)).mono ?_; rintro e w' ⟨rfl, rfl⟩)
          | (go_at_call 63; refine (has_lit _ _ false _ rfl (by decide)).mono ?_; rintro e w' ⟨rfl, rfl⟩)
          | (go_at_call 64; refine (in07_any _ _ _).mono ?_; rintro e w' ⟨rfl, rfl⟩))
      go_ret
      exact ⟨by rw [HN.out]; rfl, hB0.out⟩
    · have Pl := Lib.hid pl
      have ql : inB loc locs = true := pl
      clear pl
      cases pt : placeB false goal many
      · have HN := Lib.hid (show res = false by rw [← HR.out, pt]; simp)
        have qt : (goal == 0) = false := by simpa [placeB] using pt
        have qt2 : (goal != 0) = true := by simpa [placeB] using pt
        clear pt
        go_enter Try.func53, Try.ntmps53
        go_wp2_with (first
            | (go_at_call 62; refine (parts_6 _).mono ?_; rintro e w' ⟨rfl, rfl⟩)
            | (go_at_call 63; refine (has_lit _ _ true _ rfl (by decide)).mono ?_; rintro e w' ⟨rfl, rfl⟩)
            | (go_at_call 63; refine (has_lit _ _ false _ rfl (by decide)).mono ?_; rintro e w' ⟨rfl, rfl⟩)
            | (go_at_call 64; refine (in07_any _ _ _).mono ?_; rintro e w' ⟨rfl, rfl⟩))
        go_ret
        exact ⟨by rw [HN.out]; rfl, hB0.out⟩
      · have Pt := Lib.hid pt
        have qt : (goal == 0) = true := by simpa [placeB] using pt
        have qt2 : (goal != 0) = false := by simpa [placeB] using pt
        clear pt
        go_enter Try.func53, Try.ntmps53
        go_wp2_with (first
            | (go_at_call 62; refine (parts_6 _).mono ?_; rintro e w' ⟨rfl, rfl⟩)
            | (go_at_call 63; refine (has_lit _ _ true _ rfl (by decide)).mono ?_; rintro e w' ⟨rfl, rfl⟩)
            | (go_at_call 63; refine (has_lit _ _ false _ rfl (by decide)).mono ?_; rintro e w' ⟨rfl, rfl⟩)
            | (go_at_call 64; refine (in07_any _ _ _).mono ?_; rintro e w' ⟨rfl, rfl⟩))
        have c4 := new_cell w #[.int .i64 6, .int .i64 reg, .int .i64 loc, .slice ae n1 ce, .slice af n2 cf, .bool ne, .int .i64 goal] 55 4 _ rfl
        have c5 := new_cell w #[.int .i64 6, .int .i64 reg, .int .i64 loc, .slice ae n1 ce, .slice af n2 cf, .bool ne, .int .i64 goal] 55 5 _ rfl
        have hWs : w.heap.size < (w.alloc (.cells #[.int .i64 6, .int .i64 reg, .int .i64 loc, .slice ae n1 ce, .slice af n2 cf, .bool ne, .int .i64 goal] 55)).heap.size := by simp
        have HW := hB0
        clear hB0
        generalize w.alloc (.cells #[.int .i64 6, .int .i64 reg, .int .i64 loc, .slice ae n1 ce, .slice af n2 cf, .bool ne, .int .i64 goal] 55) = W at *
        refine (rightC06_any le [] regs 0 _ _ _ (HE.out.mono mono_op HW.out) (Sl.nil _ _)).mono ?_
        rintro e w2 ⟨rfl, hb⟩
        have r4 := cell_later hb c4
        have r5 := cell_later hb c5
        have HX := Lib.hid (HW.out.trans (hb.mono HW.out.size))
        have hW2 := hb.size
        clear hb c4 c5
        cases pe : rightC le [] regs 0
        · have HN := Lib.hid (show res = false from HR.out.symm.trans (and_no_e (e := codeB true le regs) pe))
          clear pe
          go_wp2_with (first
              | (go_at_call 62; refine (parts_6 _).mono ?_; rintro e w' ⟨rfl, rfl⟩)
              | (go_at_call 63; refine (has_lit _ _ true _ rfl (by decide)).mono ?_; rintro e w' ⟨rfl, rfl⟩)
              | (go_at_call 63; refine (has_lit _ _ false _ rfl (by decide)).mono ?_; rintro e w' ⟨rfl, rfl⟩)
              | (go_at_call 64; refine (in07_any _ _ _).mono ?_; rintro e w' ⟨rfl, rfl⟩))
          go_ret
          exact ⟨by rw [HN.out]; rfl, HX.out⟩
        · have PE : Hid (codeB true le regs = true) := pe
          clear pe
          by_cases pf : n2 = 0
          · have PF := Lib.hid (show codeB false lf regs = true from codeB_nil (N2.out.trans pf))
            subst pf
            cases ne
            all_goals
              go_wp2_with (first
                  | (go_at_call 62; refine (parts_6 _).mono ?_; rintro e w' ⟨rfl, rfl⟩)
                  | (go_at_call 63; refine (has_lit _ _ true _ rfl (by decide)).mono ?_; rintro e w' ⟨rfl, rfl⟩)
                  | (go_at_call 63; refine (has_lit _ _ false _ rfl (by decide)).mono ?_; rintro e w' ⟨rfl, rfl⟩)
                  | (go_at_call 64; refine (in07_any _ _ _).mono ?_; rintro e w' ⟨rfl, rfl⟩))
              go_ret
              exact ⟨by rw [← HR.out, Pr.out, Pl.out, Pt.out, PE.out, PF.out]; rfl, HX.out⟩
          · have HN := Lib.hid (show res = false from HR.out.symm.trans (and_no_f (codeB_no N2.out (by omega))))
            have g2 : 0 < n2 := by omega
            go_wp2_with (first
                | (go_at_call 62; refine (parts_6 _).mono ?_; rintro e w' ⟨rfl, rfl⟩)
                | (go_at_call 63; refine (has_lit _ _ true _ rfl (by decide)).mono ?_; rintro e w' ⟨rfl, rfl⟩)
                | (go_at_call 63; refine (has_lit _ _ false _ rfl (by decide)).mono ?_; rintro e w' ⟨rfl, rfl⟩)
                | (go_at_call 64; refine (in07_any _ _ _).mono ?_; rintro e w' ⟨rfl, rfl⟩))
            go_ret
            exact ⟨by rw [HN.out]; rfl, HX.out⟩

set_option maxRecDepth 100000 in
set_option maxHeartbeats 4000000 in
theorem one07_7 (reg loc : Int) (le lf : List OpS) (ne : Bool) (goal : Int) (ve vf : Value) (regs locs many : Int) (w : World) (he : Sl rOp w ve le) (hf : Sl rOp w vf lf) :
    Calls Try.prog 53 #[.agg #[.int .i64 7, .int .i64 reg, .int .i64 loc, ve, vf, .bool ne, .int .i64 goal], .int .i64 regs, .int .i64 locs, .int .i64 many] w (BoolBelow (instrOk regs locs many ⟨7, reg, loc, le, lf, ne, goal⟩) w) := by
  have hl1 := he.len
  have hl2 := hf.len
  have HE := Lib.hid he; have HF := Lib.hid hf
  obtain ⟨ae, ce, rfl, h1⟩ := ops_view he
  obtain ⟨af, cf, rfl, h2⟩ := ops_view hf
  clear he hf h1 h2
  obtain ⟨n1, hn1⟩ : ∃ n, le.length = n := ⟨_, rfl⟩
  obtain ⟨n2, hn2⟩ : ∃ n, lf.length = n := ⟨_, rfl⟩
  rw [hn1] at hl1 HE ⊢
  rw [hn2] at hl2 HF ⊢
  have N1 := Lib.hid hn1; have N2 := Lib.hid hn2; clear hn1 hn2
  obtain ⟨res, hres⟩ : ∃ r, instrOk regs locs many ⟨7, reg, loc, le, lf, ne, goal⟩ = r := ⟨_, rfl⟩
  have HR : Hid (((!ne || false) && placeB true reg regs && placeB true loc locs && placeB false goal many && codeB true le regs && codeB false lf regs) = res) := hres
  rw [hres]
  clear hres
  have hB0 := Lib.hid (show Below w.heap.size w (w.alloc (.cells #[.int .i64 7, .int .i64 reg, .int .i64 loc, .slice ae n1 ce, .slice af n2 cf, .bool ne, .int .i64 goal] 55)) from (Below.refl _ _).alloc (Nat.le_refl _) _)
  cases pr : placeB true reg regs
  · have HN := Lib.hid (show res = false by rw [← HR.out, pr]; simp)
    have qr : inB reg regs = false := pr
    clear pr
    go_enter Try.func53, Try.ntmps53
    go_wp2_with (first
        | (go_at_call 62; refine (parts_7 _).mono ?_; rintro e w' ⟨rfl, rfl⟩)
        | (go_at_call 63; refine (has_lit _ _ true _ rfl (by decide)).mono ?_; rintro e w' ⟨rfl, rfl⟩)
        | (go_at_call 63; refine (has_lit _ _ false _ rfl (by decide)).mono ?_; rintro e w' ⟨rfl, rfl⟩)
        | (go_at_call 64; refine (in07_any _ _ _).mono ?_; rintro e w' ⟨rfl, rfl⟩))
    go_ret
    exact ⟨by rw [HN.out]; rfl, hB0.out⟩
  · have Pr := Lib.hid pr
    have qr : inB reg regs = true := pr
    clear pr
    cases pl : placeB true loc locs
    · have HN := Lib.hid (show res = false by rw [← HR.out, pl]; simp)
      have ql : inB loc locs = false := pl
      clear pl
      go_enter Try.func53, Try.ntmps53
      go_wp2_with (first
          | (go_at_call 62; refine (parts_7 _).mono ?_; rintro e w' ⟨rfl, rfl⟩)
          | (go_at_call 63; refine (has_lit _ _ true _ rfl (by decide)).mono ?_; rintro e w' ⟨rfl, rfl⟩)
          | (go_at_call 63; refine (has_lit _ _ false _ rfl (by decide)).mono ?_; rintro e w' ⟨rfl, rfl⟩)
          | (go_at_call 64; refine (in07_any _ _ _).mono ?_; rintro e w' ⟨rfl, rfl⟩))
      go_ret
      exact ⟨by rw [HN.out]; rfl, hB0.out⟩
    · have Pl := Lib.hid pl
      have ql : inB loc locs = true := pl
      clear pl
      cases pt : placeB false goal many
      · have HN := Lib.hid (show res = false by rw [← HR.out, pt]; simp)
        have qt : (goal == 0) = false := by simpa [placeB] using pt
        have qt2 : (goal != 0) = true := by simpa [placeB] using pt
        clear pt
        go_enter Try.func53, Try.ntmps53
        go_wp2_with (first
            | (go_at_call 62; refine (parts_7 _).mono ?_; rintro e w' ⟨rfl, rfl⟩)
            | (go_at_call 63; refine (has_lit _ _ true _ rfl (by decide)).mono ?_; rintro e w' ⟨rfl, rfl⟩)
            | (go_at_call 63; refine (has_lit _ _ false _ rfl (by decide)).mono ?_; rintro e w' ⟨rfl, rfl⟩)
            | (go_at_call 64; refine (in07_any _ _ _).mono ?_; rintro e w' ⟨rfl, rfl⟩))
        go_ret
        exact ⟨by rw [HN.out]; rfl, hB0.out⟩
      · have Pt := Lib.hid pt
        have qt : (goal == 0) = true := by simpa [placeB] using pt
        have qt2 : (goal != 0) = false := by simpa [placeB] using pt
        clear pt
        go_enter Try.func53, Try.ntmps53
        go_wp2_with (first
            | (go_at_call 62; refine (parts_7 _).mono ?_; rintro e w' ⟨rfl, rfl⟩)
            | (go_at_call 63; refine (has_lit _ _ true _ rfl (by decide)).mono ?_; rintro e w' ⟨rfl, rfl⟩)
            | (go_at_call 63; refine (has_lit _ _ false _ rfl (by decide)).mono ?_; rintro e w' ⟨rfl, rfl⟩)
            | (go_at_call 64; refine (in07_any _ _ _).mono ?_; rintro e w' ⟨rfl, rfl⟩))
        have c4 := new_cell w #[.int .i64 7, .int .i64 reg, .int .i64 loc, .slice ae n1 ce, .slice af n2 cf, .bool ne, .int .i64 goal] 55 4 _ rfl
        have c5 := new_cell w #[.int .i64 7, .int .i64 reg, .int .i64 loc, .slice ae n1 ce, .slice af n2 cf, .bool ne, .int .i64 goal] 55 5 _ rfl
        have hWs : w.heap.size < (w.alloc (.cells #[.int .i64 7, .int .i64 reg, .int .i64 loc, .slice ae n1 ce, .slice af n2 cf, .bool ne, .int .i64 goal] 55)).heap.size := by simp
        have HW := hB0
        clear hB0
        generalize w.alloc (.cells #[.int .i64 7, .int .i64 reg, .int .i64 loc, .slice ae n1 ce, .slice af n2 cf, .bool ne, .int .i64 goal] 55) = W at *
        refine (rightC06_any le [] regs 0 _ _ _ (HE.out.mono mono_op HW.out) (Sl.nil _ _)).mono ?_
        rintro e w2 ⟨rfl, hb⟩
        have r4 := cell_later hb c4
        have r5 := cell_later hb c5
        have HX := Lib.hid (HW.out.trans (hb.mono HW.out.size))
        have hW2 := hb.size
        clear hb c4 c5
        cases pe : rightC le [] regs 0
        · have HN := Lib.hid (show res = false from HR.out.symm.trans (and_no_e (e := codeB true le regs) pe))
          clear pe
          go_wp2_with (first
              | (go_at_call 62; refine (parts_7 _).mono ?_; rintro e w' ⟨rfl, rfl⟩)
              | (go_at_call 63; refine (has_lit _ _ true _ rfl (by decide)).mono ?_; rintro e w' ⟨rfl, rfl⟩)
              | (go_at_call 63; refine (has_lit _ _ false _ rfl (by decide)).mono ?_; rintro e w' ⟨rfl, rfl⟩)
              | (go_at_call 64; refine (in07_any _ _ _).mono ?_; rintro e w' ⟨rfl, rfl⟩))
          go_ret
          exact ⟨by rw [HN.out]; rfl, HX.out⟩
        · have PE : Hid (codeB true le regs = true) := pe
          clear pe
          by_cases pf : n2 = 0
          · have PF := Lib.hid (show codeB false lf regs = true from codeB_nil (N2.out.trans pf))
            subst pf
            cases ne
            all_goals
              go_wp2_with (first
                  | (go_at_call 62; refine (parts_7 _).mono ?_; rintro e w' ⟨rfl, rfl⟩)
                  | (go_at_call 63; refine (has_lit _ _ true _ rfl (by decide)).mono ?_; rintro e w' ⟨rfl, rfl⟩)
                  | (go_at_call 63; refine (has_lit _ _ false _ rfl (by decide)).mono ?_; rintro e w' ⟨rfl, rfl⟩)
                  | (go_at_call 64; refine (in07_any _ _ _).mono ?_; rintro e w' ⟨rfl, rfl⟩))
              go_ret
              exact ⟨by rw [← HR.out, Pr.out, Pl.out, Pt.out, PE.out, PF.out]; rfl, HX.out⟩
          · have HN := Lib.hid (show res = false from HR.out.symm.trans (and_no_f (codeB_no N2.out (by omega))))
            have g2 : 0 < n2 := by omega
            go_wp2_with (first
                | (go_at_call 62; refine (parts_7 _).mono ?_; rintro e w' ⟨rfl, rfl⟩)
                | (go_at_call 63; refine (has_lit _ _ true _ rfl (by decide)).mono ?_; rintro e w' ⟨rfl, rfl⟩)
                | (go_at_call 63; refine (has_lit _ _ false _ rfl (by decide)).mono ?_; rintro e w' ⟨rfl, rfl⟩)
                | (go_at_call 64; refine (in07_any _ _ _).mono ?_; rintro e w' ⟨rfl, rfl⟩))
            go_ret
            exact ⟨by rw [HN.out]; rfl, HX.out⟩

end Go.Proofs.Ytejkhpgahnncnaa
end

section
namespace Go.Proofs.Ytejkhpgahnncnaa
open Go.RowKit
set_option linter.unusedVariables false
set_option linter.unusedSimpArgs false

set_option maxRecDepth 100000 in
set_option maxHeartbeats 4000000 in
theorem one07_9 (reg loc : Int) (le lf : List OpS) (ne : Bool) (goal : Int) (ve vf : Value) (regs locs many : Int) (w : World) (he : Sl rOp w ve le) (hf : Sl rOp w vf lf) :
    Calls Try.prog 53 #[.agg #[.int .i64 9, .int .i64 reg, .int .i64 loc, ve, vf, .bool ne, .int .i64 goal], .int .i64 regs, .int .i64 locs, .int .i64 many] w (BoolBelow (instrOk regs locs many ⟨9, reg, loc, le, lf, ne, goal⟩) w) := by
  have hl1 := he.len
  have hl2 := hf.len
  have HE := Lib.hid he; have HF := Lib.hid hf
  obtain ⟨ae, ce, rfl, h1⟩ := ops_view he
  obtain ⟨af, cf, rfl, h2⟩ := ops_view hf
  clear he hf h1 h2
  obtain ⟨n1, hn1⟩ : ∃ n, le.length = n := ⟨_, rfl⟩
  obtain ⟨n2, hn2⟩ : ∃ n, lf.length = n := ⟨_, rfl⟩
  rw [hn1] at hl1 HE ⊢
  rw [hn2] at hl2 HF ⊢
  have N1 := Lib.hid hn1; have N2 := Lib.hid hn2; clear hn1 hn2
  obtain ⟨res, hres⟩ : ∃ r, instrOk regs locs many ⟨9, reg, loc, le, lf, ne, goal⟩ = r := ⟨_, rfl⟩
  have HR : Hid (((!ne || true) && placeB false reg regs && placeB true loc locs && placeB false goal many && codeB true le regs && codeB false lf regs) = res) := hres
  rw [hres]
  clear hres
  have hB0 := Lib.hid (show Below w.heap.size w (w.alloc (.cells #[.int .i64 9, .int .i64 reg, .int .i64 loc, .slice ae n1 ce, .slice af n2 cf, .bool ne, .int .i64 goal] 55)) from (Below.refl _ _).alloc (Nat.le_refl _) _)
  cases pr : placeB false reg regs
  · have HN := Lib.hid (show res = false by rw [← HR.out, pr]; simp)
    have qr : (reg == 0) = false := by simpa [placeB] using pr
    have qr2 : (reg != 0) = true := by simpa [placeB] using pr
    clear pr
    go_enter Try.func53, Try.ntmps53
    go_wp2_with (first
        | (go_at_call 62; refine (parts_9 _).mono ?_; rintro e w' ⟨rfl, rfl⟩)
        | (go_at_call 63; refine (has_lit _ _ true _ rfl (by decide)).mono ?_; rintro e w' ⟨rfl, rfl⟩)
        | (go_at_call 63; refine (has_lit _ _ false _ rfl (by decide)).mono ?_; rintro e w' ⟨rfl, rfl⟩)
        | (go_at_call 64; refine (in07_any _ _ _).mono ?_; rintro e w' ⟨rfl, rfl⟩))
    go_ret
    exact ⟨by rw [HN.out]; rfl, hB0.out⟩
  · have Pr := Lib.hid pr
    have qr : (reg == 0) = true := by simpa [placeB] using pr
    have qr2 : (reg != 0) = false := by simpa [placeB] using pr
    clear pr
    cases pl : placeB true loc locs
    · have HN := Lib.hid (show res = false by rw [← HR.out, pl]; simp)
      have ql : inB loc locs = false := pl
      clear pl
      go_enter Try.func53, Try.ntmps53
      go_wp2_with (first
          | (go_at_call 62; refine (parts_9 _).mono ?_; rintro e w' ⟨rfl, rfl⟩)
          | (go_at_call 63; refine (has_lit _ _ true _ rfl (by decide)).mono ?_; rintro e w' ⟨rfl, rfl⟩)
          | (go_at_call 63; refine (has_lit _ _ false _ rfl (by decide)).mono ?_; rintro e w' ⟨rfl, rfl⟩)
          | (go_at_call 64; refine (in07_any _ _ _).mono ?_; rintro e w' ⟨rfl, rfl⟩))
      go_ret
      exact ⟨by rw [HN.out]; rfl, hB0.out⟩
    · have Pl := Lib.hid pl
      have ql : inB loc locs = true := pl
      clear pl
      cases pt : placeB false goal many
      · have HN := Lib.hid (show res = false by rw [← HR.out, pt]; simp)
        have qt : (goal == 0) = false := by simpa [placeB] using pt
        have qt2 : (goal != 0) = true := by simpa [placeB] using pt
        clear pt
        go_enter Try.func53, Try.ntmps53
        go_wp2_with (first
            | (go_at_call 62; refine (parts_9 _).mono ?_; rintro e w' ⟨rfl, rfl⟩)
            | (go_at_call 63; refine (has_lit _ _ true _ rfl (by decide)).mono ?_; rintro e w' ⟨rfl, rfl⟩)
            | (go_at_call 63; refine (has_lit _ _ false _ rfl (by decide)).mono ?_; rintro e w' ⟨rfl, rfl⟩)
            | (go_at_call 64; refine (in07_any _ _ _).mono ?_; rintro e w' ⟨rfl, rfl⟩))
        go_ret
        exact ⟨by rw [HN.out]; rfl, hB0.out⟩
      · have Pt := Lib.hid pt
        have qt : (goal == 0) = true := by simpa [placeB] using pt
        have qt2 : (goal != 0) = false := by simpa [placeB] using pt
        clear pt
        go_enter Try.func53, Try.ntmps53
        go_wp2_with (first
            | (go_at_call 62; refine (parts_9 _).mono ?_; rintro e w' ⟨rfl, rfl⟩)
            | (go_at_call 63; refine (has_lit _ _ true _ rfl (by decide)).mono ?_; rintro e w' ⟨rfl, rfl⟩)
            | (go_at_call 63; refine (has_lit _ _ false _ rfl (by decide)).mono ?_; rintro e w' ⟨rfl, rfl⟩)
            | (go_at_call 64; refine (in07_any _ _ _).mono ?_; rintro e w' ⟨rfl, rfl⟩))
        have c4 := new_cell w #[.int .i64 9, .int .i64 reg, .int .i64 loc, .slice ae n1 ce, .slice af n2 cf, .bool ne, .int .i64 goal] 55 4 _ rfl
        have c5 := new_cell w #[.int .i64 9, .int .i64 reg, .int .i64 loc, .slice ae n1 ce, .slice af n2 cf, .bool ne, .int .i64 goal] 55 5 _ rfl
        have hWs : w.heap.size < (w.alloc (.cells #[.int .i64 9, .int .i64 reg, .int .i64 loc, .slice ae n1 ce, .slice af n2 cf, .bool ne, .int .i64 goal] 55)).heap.size := by simp
        have HW := hB0
        clear hB0
        generalize w.alloc (.cells #[.int .i64 9, .int .i64 reg, .int .i64 loc, .slice ae n1 ce, .slice af n2 cf, .bool ne, .int .i64 goal] 55) = W at *
        refine (rightC06_any le [] regs 0 _ _ _ (HE.out.mono mono_op HW.out) (Sl.nil _ _)).mono ?_
        rintro e w2 ⟨rfl, hb⟩
        have r4 := cell_later hb c4
        have r5 := cell_later hb c5
        have HX := Lib.hid (HW.out.trans (hb.mono HW.out.size))
        have hW2 := hb.size
        clear hb c4 c5
        cases pe : rightC le [] regs 0
        · have HN := Lib.hid (show res = false from HR.out.symm.trans (and_no_e (e := codeB true le regs) pe))
          clear pe
          go_wp2_with (first
              | (go_at_call 62; refine (parts_9 _).mono ?_; rintro e w' ⟨rfl, rfl⟩)
              | (go_at_call 63; refine (has_lit _ _ true _ rfl (by decide)).mono ?_; rintro e w' ⟨rfl, rfl⟩)
              | (go_at_call 63; refine (has_lit _ _ false _ rfl (by decide)).mono ?_; rintro e w' ⟨rfl, rfl⟩)
              | (go_at_call 64; refine (in07_any _ _ _).mono ?_; rintro e w' ⟨rfl, rfl⟩))
          go_ret
          exact ⟨by rw [HN.out]; rfl, HX.out⟩
        · have PE : Hid (codeB true le regs = true) := pe
          clear pe
          by_cases pf : n2 = 0
          · have PF := Lib.hid (show codeB false lf regs = true from codeB_nil (N2.out.trans pf))
            subst pf
            cases ne
            all_goals
              go_wp2_with (first
                  | (go_at_call 62; refine (parts_9 _).mono ?_; rintro e w' ⟨rfl, rfl⟩)
                  | (go_at_call 63; refine (has_lit _ _ true _ rfl (by decide)).mono ?_; rintro e w' ⟨rfl, rfl⟩)
                  | (go_at_call 63; refine (has_lit _ _ false _ rfl (by decide)).mono ?_; rintro e w' ⟨rfl, rfl⟩)
                  | (go_at_call 64; refine (in07_any _ _ _).mono ?_; rintro e w' ⟨rfl, rfl⟩))
              go_ret
              exact ⟨by rw [← HR.out, Pr.out, Pl.out, Pt.out, PE.out, PF.out]; rfl, HX.out⟩
          · have HN := Lib.hid (show res = false from HR.out.symm.trans (and_no_f (codeB_no N2.out (by omega))))
            have g2 : 0 < n2 := by omega
            go_wp2_with (first
                | (go_at_call 62; refine (parts_9 _).mono ?_; rintro e w' ⟨rfl, rfl⟩)
                | (go_at_call 63; refine (has_lit _ _ true _ rfl (by decide)).mono ?_; rintro e w' ⟨rfl, rfl⟩)
                | (go_at_call 63; refine (has_lit _ _ false _ rfl (by decide)).mono ?_; rintro e w' ⟨rfl, rfl⟩)
                | (go_at_call 64; refine (in07_any _ _ _).mono ?_; rintro e w' ⟨rfl, rfl⟩))
            go_ret
            exact ⟨by rw [HN.out]; rfl, HX.out⟩

set_option maxRecDepth 100000 in
set_option maxHeartbeats 4000000 in
theorem one07_20 (reg loc : Int) (le lf : List OpS) (ne : Bool) (goal : Int) (ve vf : Value) (regs locs many : Int) (w : World) (he : Sl rOp w ve le) (hf : Sl rOp w vf lf) :
    Calls Try.prog 53 #[.agg #[.int .i64 20, .int .i64 reg, .int .i64 loc, ve, vf, .bool ne, .int .i64 goal], .int .i64 regs, .int .i64 locs, .int .i64 many] w (BoolBelow (instrOk regs locs many ⟨20, reg, loc, le, lf, ne, goal⟩) w) := by
  have hl1 := he.len
  have hl2 := hf.len
  have HE := Lib.hid he; have HF := Lib.hid hf
  obtain ⟨ae, ce, rfl, h1⟩ := ops_view he
  obtain ⟨af, cf, rfl, h2⟩ := ops_view hf
  clear he hf h1 h2
  obtain ⟨n1, hn1⟩ : ∃ n, le.length = n := ⟨_, rfl⟩
  obtain ⟨n2, hn2⟩ : ∃ n, lf.length = n := ⟨_, rfl⟩
  rw [hn1] at hl1 HE ⊢
  rw [hn2] at hl2 HF ⊢
  have N1 := Lib.hid hn1; have N2 := Lib.hid hn2; clear hn1 hn2
  obtain ⟨res, hres⟩ : ∃ r, instrOk regs locs many ⟨20, reg, loc, le, lf, ne, goal⟩ = r := ⟨_, rfl⟩
  have HR : Hid (((!ne || false) && placeB false reg regs && placeB false loc locs && placeB true goal many && codeB false le regs && codeB false lf regs) = res) := hres
  rw [hres]
  clear hres
  have hB0 := Lib.hid (show Below w.heap.size w (w.alloc (.cells #[.int .i64 20, .int .i64 reg, .int .i64 loc, .slice ae n1 ce, .slice af n2 cf, .bool ne, .int .i64 goal] 55)) from (Below.refl _ _).alloc (Nat.le_refl _) _)
  cases pr : placeB false reg regs
  · have HN := Lib.hid (show res = false by rw [← HR.out, pr]; simp)
    have qr : (reg == 0) = false := by simpa [placeB] using pr
    have qr2 : (reg != 0) = true := by simpa [placeB] using pr
    clear pr
    go_enter Try.func53, Try.ntmps53
    go_wp2_with (first
        | (go_at_call 62; refine (parts_20 _).mono ?_; rintro e w' ⟨rfl, rfl⟩)
        | (go_at_call 63; refine (has_lit _ _ true _ rfl (by decide)).mono ?_; rintro e w' ⟨rfl, rfl⟩)
        | (go_at_call 63; refine (has_lit _ _ false _ rfl (by decide)).mono ?_; rintro e w' ⟨rfl, rfl⟩)
        | (go_at_call 64; refine (in07_any _ _ _).mono ?_; rintro e w' ⟨rfl, rfl⟩))
    go_ret
    exact ⟨by rw [HN.out]; rfl, hB0.out⟩
  · have Pr := Lib.hid pr
    have qr : (reg == 0) = true := by simpa [placeB] using pr
    have qr2 : (reg != 0) = false := by simpa [placeB] using pr
    clear pr
    cases pl : placeB false loc locs
    · have HN := Lib.hid (show res = false by rw [← HR.out, pl]; simp)
      have ql : (loc == 0) = false := by simpa [placeB] using pl
      have ql2 : (loc != 0) = true := by simpa [placeB] using pl
      clear pl
      go_enter Try.func53, Try.ntmps53
      go_wp2_with (first
          | (go_at_call 62; refine (parts_20 _).mono ?_; rintro e w' ⟨rfl, rfl⟩)
          | (go_at_call 63; refine (has_lit _ _ true _ rfl (by decide)).mono ?_; rintro e w' ⟨rfl, rfl⟩)
          | (go_at_call 63; refine (has_lit _ _ false _ rfl (by decide)).mono ?_; rintro e w' ⟨rfl, rfl⟩)
          | (go_at_call 64; refine (in07_any _ _ _).mono ?_; rintro e w' ⟨rfl, rfl⟩))
      go_ret
      exact ⟨by rw [HN.out]; rfl, hB0.out⟩
    · have Pl := Lib.hid pl
      have ql : (loc == 0) = true := by simpa [placeB] using pl
      have ql2 : (loc != 0) = false := by simpa [placeB] using pl
      clear pl
      cases pt : placeB true goal many
      · have HN := Lib.hid (show res = false by rw [← HR.out, pt]; simp)
        have qt : inB goal many = false := pt
        clear pt
        go_enter Try.func53, Try.ntmps53
        go_wp2_with (first
            | (go_at_call 62; refine (parts_20 _).mono ?_; rintro e w' ⟨rfl, rfl⟩)
            | (go_at_call 63; refine (has_lit _ _ true _ rfl (by decide)).mono ?_; rintro e w' ⟨rfl, rfl⟩)
            | (go_at_call 63; refine (has_lit _ _ false _ rfl (by decide)).mono ?_; rintro e w' ⟨rfl, rfl⟩)
            | (go_at_call 64; refine (in07_any _ _ _).mono ?_; rintro e w' ⟨rfl, rfl⟩))
        go_ret
        exact ⟨by rw [HN.out]; rfl, hB0.out⟩
      · have Pt := Lib.hid pt
        have qt : inB goal many = true := pt
        clear pt
        by_cases pe : n1 = 0
        · have PE := Lib.hid (show codeB false le regs = true from codeB_nil (N1.out.trans pe))
          subst pe
          by_cases pf : n2 = 0
          · have PF := Lib.hid (show codeB false lf regs = true from codeB_nil (N2.out.trans pf))
            subst pf
            cases ne
            all_goals
              go_enter Try.func53, Try.ntmps53
              go_wp2_with (first
                  | (go_at_call 62; refine (parts_20 _).mono ?_; rintro e w' ⟨rfl, rfl⟩)
                  | (go_at_call 63; refine (has_lit _ _ true _ rfl (by decide)).mono ?_; rintro e w' ⟨rfl, rfl⟩)
                  | (go_at_call 63; refine (has_lit _ _ false _ rfl (by decide)).mono ?_; rintro e w' ⟨rfl, rfl⟩)
                  | (go_at_call 64; refine (in07_any _ _ _).mono ?_; rintro e w' ⟨rfl, rfl⟩))
              go_ret
              exact ⟨by rw [← HR.out, Pr.out, Pl.out, Pt.out, PE.out, PF.out]; rfl, hB0.out⟩
          · have HN := Lib.hid (show res = false from HR.out.symm.trans (and_no_f (codeB_no N2.out (by omega))))
            have g2 : 0 < n2 := by omega
            go_enter Try.func53, Try.ntmps53
            go_wp2_with (first
                | (go_at_call 62; refine (parts_20 _).mono ?_; rintro e w' ⟨rfl, rfl⟩)
                | (go_at_call 63; refine (has_lit _ _ true _ rfl (by decide)).mono ?_; rintro e w' ⟨rfl, rfl⟩)
                | (go_at_call 63; refine (has_lit _ _ false _ rfl (by decide)).mono ?_; rintro e w' ⟨rfl, rfl⟩)
                | (go_at_call 64; refine (in07_any _ _ _).mono ?_; rintro e w' ⟨rfl, rfl⟩))
            go_ret
            exact ⟨by rw [HN.out]; rfl, hB0.out⟩
        · have HN := Lib.hid (show res = false from HR.out.symm.trans (and_no_e (codeB_no N1.out (by omega))))
          have g1 : 0 < n1 := by omega
          go_enter Try.func53, Try.ntmps53
          go_wp2_with (first
              | (go_at_call 62; refine (parts_20 _).mono ?_; rintro e w' ⟨rfl, rfl⟩)
              | (go_at_call 63; refine (has_lit _ _ true _ rfl (by decide)).mono ?_; rintro e w' ⟨rfl, rfl⟩)
              | (go_at_call 63; refine (has_lit _ _ false _ rfl (by decide)).mono ?_; rintro e w' ⟨rfl, rfl⟩)
              | (go_at_call 64; refine (in07_any _ _ _).mono ?_; rintro e w' ⟨rfl, rfl⟩))
          go_ret
          exact ⟨by rw [HN.out]; rfl, hB0.out⟩

set_option maxRecDepth 100000 in
set_option maxHeartbeats 4000000 in
theorem one07_21 (reg loc : Int) (le lf : List OpS) (ne : Bool) (goal : Int) (ve vf : Value) (regs locs many : Int) (w : World) (he : Sl rOp w ve le) (hf : Sl rOp w vf lf) :
    Calls Try.prog 53 #[.agg #[.int .i64 21, .int .i64 reg, .int .i64 loc, ve, vf, .bool ne, .int .i64 goal], .int .i64 regs, .int .i64 locs, .int .i64 many] w (BoolBelow (instrOk regs locs many ⟨21, reg, loc, le, lf, ne, goal⟩) w) := by
  have hl1 := he.len
  have hl2 := hf.len
  have HE := Lib.hid he; have HF := Lib.hid hf
  obtain ⟨ae, ce, rfl, h1⟩ := ops_view he
  obtain ⟨af, cf, rfl, h2⟩ := ops_view hf
  clear he hf h1 h2
  obtain ⟨n1, hn1⟩ : ∃ n, le.length = n := ⟨_, rfl⟩
  obtain ⟨n2, hn2⟩ : ∃ n, lf.length = n := ⟨_, rfl⟩
  rw [hn1] at hl1 HE ⊢
  rw [hn2] at hl2 HF ⊢
  have N1 := Lib.hid hn1; have N2 := Lib.hid hn2; clear hn1 hn2
  obtain ⟨res, hres⟩ : ∃ r, instrOk regs locs many ⟨21, reg, loc, le, lf, ne, goal⟩ = r := ⟨_, rfl⟩
  have HR : Hid (((!ne || false) && placeB false reg regs && placeB false loc locs && placeB true goal many && codeB true le regs && codeB false lf regs) = res) := hres
  rw [hres]
  clear hres
  have hB0 := Lib.hid (show Below w.heap.size w (w.alloc (.cells #[.int .i64 21, .int .i64 reg, .int .i64 loc, .slice ae n1 ce, .slice af n2 cf, .bool ne, .int .i64 goal] 55)) from (Below.refl _ _).alloc (Nat.le_refl _) _)
  cases pr : placeB false reg regs
  · have HN := Lib.hid (show res = false by rw [← HR.out, pr]; simp)
    have qr : (reg == 0) = false := by simpa [placeB] using pr
    have qr2 : (reg != 0) = true := by simpa [placeB] using pr
    clear pr
    go_enter Try.func53, Try.ntmps53
    go_wp2_with (first
        | (go_at_call 62; refine (parts_21 _).mono ?_; rintro e w' ⟨rfl, rfl⟩)
        | (go_at_call 63; refine (has_lit _ _ true _ rfl (by decide)).mono ?_; rintro e w' ⟨rfl, rfl⟩)
        | (go_at_call 63; refine (has_lit _ _ false _ rfl (by decide)).mono ?_; rintro e w' ⟨rfl, rfl⟩)
        | (go_at_call 64; refine (in07_any _ _ _).mono ?_; rintro e w' ⟨rfl, rfl⟩))
    go_ret
    exact ⟨by rw [HN.out]; rfl, hB0.out⟩
  · have Pr := Lib.hid pr
    have qr : (reg == 0) = true := by simpa [placeB] using pr
    have qr2 : (reg != 0) = false := by simpa [placeB] using pr
    clear pr
    cases pl : placeB false loc locs
    · have HN := Lib.hid (show res = false by rw [← HR.out, pl]; simp)
      have ql : (loc == 0) = false := by simpa [placeB] using pl
      have ql2 : (loc != 0) = true := by simpa [placeB] using pl
      clear pl
      go_enter Try.func53, Try.ntmps53
      go_wp2_with (first
          | (go_at_call 62; refine (parts_21 _).mono ?_; rintro e w' ⟨rfl, rfl⟩)
          | (go_at_call 63; refine (has_lit _ _ true _ rfl (by decide)).mono ?_; rintro e w' ⟨rfl, rfl⟩)
          | (go_at_call 63; refine (has_lit _ _ false _ rfl (by decide)).mono ?_; rintro e w' ⟨rfl, rfl⟩)
          | (go_at_call 64; refine (in07_any _ _ _).mono ?_; rintro e w' ⟨rfl, rfl⟩))
      go_ret
      exact ⟨by rw [HN.out]; rfl, hB0.out⟩
    · have Pl := Lib.hid pl
      have ql : (loc == 0) = true := by simpa [placeB] using pl
      have ql2 : (loc != 0) = false := by simpa [placeB] using pl
      clear pl
      cases pt : placeB true goal many
      · have HN := Lib.hid (show res = false by rw [← HR.out, pt]; simp)
        have qt : inB goal many = false := pt
        clear pt
        go_enter Try.func53, Try.ntmps53
        go_wp2_with (first
            | (go_at_call 62; refine (parts_21 _).mono ?_; rintro e w' ⟨rfl, rfl⟩)
            | (go_at_call 63; refine (has_lit _ _ true _ rfl (by decide)).mono ?_; rintro e w' ⟨rfl, rfl⟩)
            | (go_at_call 63; refine (has_lit _ _ false _ rfl (by decide)).mono ?_; rintro e w' ⟨rfl, rfl⟩)
            | (go_at_call 64; refine (in07_any _ _ _).mono ?_; rintro e w' ⟨rfl, rfl⟩))
        go_ret
        exact ⟨by rw [HN.out]; rfl, hB0.out⟩
      · have Pt := Lib.hid pt
        have qt : inB goal many = true := pt
        clear pt
        go_enter Try.func53, Try.ntmps53
        go_wp2_with (first
            | (go_at_call 62; refine (parts_21 _).mono ?_; rintro e w' ⟨rfl, rfl⟩)
            | (go_at_call 63; refine (has_lit _ _ true _ rfl (by decide)).mono ?_; rintro e w' ⟨rfl, rfl⟩)
            | (go_at_call 63; refine (has_lit _ _ false _ rfl (by decide)).mono ?_; rintro e w' ⟨rfl, rfl⟩)
            | (go_at_call 64; refine (in07_any _ _ _).mono ?_; rintro e w' ⟨rfl, rfl⟩))
        have c4 := new_cell w #[.int .i64 21, .int .i64 reg, .int .i64 loc, .slice ae n1 ce, .slice af n2 cf, .bool ne, .int .i64 goal] 55 4 _ rfl
        have c5 := new_cell w #[.int .i64 21, .int .i64 reg, .int .i64 loc, .slice ae n1 ce, .slice af n2 cf, .bool ne, .int .i64 goal] 55 5 _ rfl
        have hWs : w.heap.size < (w.alloc (.cells #[.int .i64 21, .int .i64 reg, .int .i64 loc, .slice ae n1 ce, .slice af n2 cf, .bool ne, .int .i64 goal] 55)).heap.size := by simp
        have HW := hB0
        clear hB0
        generalize w.alloc (.cells #[.int .i64 21, .int .i64 reg, .int .i64 loc, .slice ae n1 ce, .slice af n2 cf, .bool ne, .int .i64 goal] 55) = W at *
        refine (rightC06_any le [] regs 0 _ _ _ (HE.out.mono mono_op HW.out) (Sl.nil _ _)).mono ?_
        rintro e w2 ⟨rfl, hb⟩
        have r4 := cell_later hb c4
        have r5 := cell_later hb c5
        have HX := Lib.hid (HW.out.trans (hb.mono HW.out.size))
        have hW2 := hb.size
        clear hb c4 c5
        cases pe : rightC le [] regs 0
        · have HN := Lib.hid (show res = false from HR.out.symm.trans (and_no_e (e := codeB true le regs) pe))
          clear pe
          go_wp2_with (first
              | (go_at_call 62; refine (parts_21 _).mono ?_; rintro e w' ⟨rfl, rfl⟩)
              | (go_at_call 63; refine (has_lit _ _ true _ rfl (by decide)).mono ?_; rintro e w' ⟨rfl, rfl⟩)
              | (go_at_call 63; refine (has_lit _ _ false _ rfl (by decide)).mono ?_; rintro e w' ⟨rfl, rfl⟩)
              | (go_at_call 64; refine (in07_any _ _ _).mono ?_; rintro e w' ⟨rfl, rfl⟩))
          go_ret
          exact ⟨by rw [HN.out]; rfl, HX.out⟩
        · have PE : Hid (codeB true le regs = true) := pe
          clear pe
          by_cases pf : n2 = 0
          · have PF := Lib.hid (show codeB false lf regs = true from codeB_nil (N2.out.trans pf))
            subst pf
            cases ne
            all_goals
              go_wp2_with (first
                  | (go_at_call 62; refine (parts_21 _).mono ?_; rintro e w' ⟨rfl, rfl⟩)
                  | (go_at_call 63; refine (has_lit _ _ true _ rfl (by decide)).mono ?_; rintro e w' ⟨rfl, rfl⟩)
                  | (go_at_call 63; refine (has_lit _ _ false _ rfl (by decide)).mono ?_; rintro e w' ⟨rfl, rfl⟩)
                  | (go_at_call 64; refine (in07_any _ _ _).mono ?_; rintro e w' ⟨rfl, rfl⟩))
              go_ret
              exact ⟨by rw [← HR.out, Pr.out, Pl.out, Pt.out, PE.out, PF.out]; rfl, HX.out⟩
          · have HN := Lib.hid (show res = false from HR.out.symm.trans (and_no_f (codeB_no N2.out (by omega))))
            have g2 : 0 < n2 := by omega
            go_wp2_with (first
                | (go_at_call 62; refine (parts_21 _).mono ?_; rintro e w' ⟨rfl, rfl⟩)
                | (go_at_call 63; refine (has_lit _ _ true _ rfl (by decide)).mono ?_; rintro e w' ⟨rfl, rfl⟩)
                | (go_at_call 63; refine (has_lit _ _ false _ rfl (by decide)).mono ?_; rintro e w' ⟨rfl, rfl⟩)
                | (go_at_call 64; refine (in07_any _ _ _).mono ?_; rintro e w' ⟨rfl, rfl⟩))
            go_ret
            exact ⟨by rw [HN.out]; rfl, HX.out⟩

end Go.Proofs.Ytejkhpgahnncnaa
end

section
namespace Go.Proofs.Ytejkhpgahnncnaa
open Go.RowKit
set_option linter.unusedVariables false
set_option linter.unusedSimpArgs false

set_option maxRecDepth 100000 in
set_option maxHeartbeats 4000000 in
theorem one07_none (op reg loc : Int) (le lf : List OpS) (ne : Bool) (goal : Int) (ve vf : Value) (regs locs many : Int) (w : World) (he : Sl rOp w ve le) (hf : Sl rOp w vf lf) (h : needsOf op = none) :
    Calls Try.prog 53 #[.agg #[.int .i64 op, .int .i64 reg, .int .i64 loc, ve, vf, .bool ne, .int .i64 goal], .int .i64 regs, .int .i64 locs, .int .i64 many] w (BoolBelow (instrOk regs locs many ⟨op, reg, loc, le, lf, ne, goal⟩) w) := by
  have HN := Lib.hid (show instrOk regs locs many ⟨op, reg, loc, le, lf, ne, goal⟩ = false by simp [instrOk, h])
  rw [HN.out]
  obtain ⟨ae, ce, rfl, h1⟩ := ops_view he
  obtain ⟨af, cf, rfl, h2⟩ := ops_view hf
  have H := Lib.hid h
  clear he hf h1 h2 h
  go_enter Try.func53, Try.ntmps53
  go_wp2_with (first | (go_at_call 62; refine (parts_none op _ H.out).mono ?_; rintro e w' ⟨rfl, rfl⟩))
  go_ret
  exact ⟨rfl, (Below.refl _ _).alloc (Nat.le_refl _) _⟩

theorem needs_kinds (op : Int) : (op = 2 ∨ op = 3 ∨ op = 4 ∨ op = 5 ∨ op = 6 ∨ op = 7 ∨ op = 8 ∨ op = 9 ∨ op = 20 ∨ op = 21) ∨ needsOf op = none := by
  by_cases h : op = 2 ∨ op = 3 ∨ op = 4 ∨ op = 5 ∨ op = 6 ∨ op = 7 ∨ op = 8 ∨ op = 9 ∨ op = 20 ∨ op = 21
  · exact .inl h
  · right
    simp only [needsOf]
    repeat rw [if_neg (by omega)]

theorem one07_any (op reg loc : Int) (le lf : List OpS) (ne : Bool) (goal : Int) (ve vf : Value) (regs locs many : Int) (w : World) (he : Sl rOp w ve le) (hf : Sl rOp w vf lf) :
    Calls Try.prog 53 #[.agg #[.int .i64 op, .int .i64 reg, .int .i64 loc, ve, vf, .bool ne, .int .i64 goal], .int .i64 regs, .int .i64 locs, .int .i64 many] w (BoolBelow (instrOk regs locs many ⟨op, reg, loc, le, lf, ne, goal⟩) w) := by
  rcases needs_kinds op with (rfl | rfl | rfl | rfl | rfl | rfl | rfl | rfl | rfl | rfl) | h
  · exact one07_2 _ _ _ _ _ _ _ _ _ _ _ _ he hf
  · exact one07_3 _ _ _ _ _ _ _ _ _ _ _ _ he hf
  · exact one07_4 _ _ _ _ _ _ _ _ _ _ _ _ he hf
  · exact one07_5 _ _ _ _ _ _ _ _ _ _ _ _ he hf
  · exact one07_6 _ _ _ _ _ _ _ _ _ _ _ _ he hf
  · exact one07_7 _ _ _ _ _ _ _ _ _ _ _ _ he hf
  · exact one07_8 _ _ _ _ _ _ _ _ _ _ _ _ he hf
  · exact one07_9 _ _ _ _ _ _ _ _ _ _ _ _ he hf
  · exact one07_20 _ _ _ _ _ _ _ _ _ _ _ _ he hf
  · exact one07_21 _ _ _ _ _ _ _ _ _ _ _ _ he hf
  · exact one07_none _ _ _ _ _ _ _ _ _ _ _ _ _ he hf h

set_option maxRecDepth 100000 in
set_option maxHeartbeats 4000000 in
theorem right07_head (u : UnitS) (v : Value) (w : World) (hv : UnitV w v u) (hh : headOk u = false ∨ allIn u.init u.mod = false) :
    Calls Try.prog 35 #[v] w (BoolBelow false w) := by
  obtain ⟨vi, vr, vc, rfl, s1, s2, s3, m1, m2⟩ := hv
  have l1 := s1.len; have l2 := s2.len; have l3 := s3.len
  have S1 := Lib.hid s1
  obtain ⟨a1, c1, rfl, h1⟩ := ints_view s1
  obtain ⟨a2, c2, rfl, h2⟩ := ints_view s2
  obtain ⟨a3, c3, rfl, h3⟩ := slices_view s3
  clear s1 s2 s3 h1 h2 h3
  obtain ⟨b, hb⟩ : ∃ b, allIn u.init u.mod = b := ⟨_, rfl⟩
  have HH : Hid (2 ≤ u.mod → u.mod ≤ 16 → b = true → u.init.length ≤ 6 → 1 ≤ u.regs.length → u.regs.length ≤ 4 → u.code.length = u.regs.length → False) := fun h1 h2 h3 h4 h5 h6 h7 => by
    rcases hh with hh | hh
    · exact headOk_no hh h1 h2 h4 h5 h6 h7
    · rw [hb, h3] at hh; cases hh
  clear hh
  obtain ⟨mod, init, regs, code⟩ := u
  dsimp only at *
  have HBB := Lib.hid hb
  clear hb
  obtain ⟨n1, hn1⟩ : ∃ n, init.length = n := ⟨_, rfl⟩
  rw [hn1] at l1 S1 HH ⊢
  clear hn1
  generalize regs.length = n2 at *
  generalize code.length = n3 at *
  cases b
  all_goals
    go_enter Try.func35, Try.ntmps35
    go_wp2_with (first | (go_at_call 47; refine (all06_any init mod _ _ (S1.out.mono (mono_int _) ((Below.refl _ _).alloc (Nat.le_refl _) _))).mono ?_; rintro e w' ⟨rfl, rfl⟩; rw [HBB.out]))
    all_goals
      first
      | (go_ret; exact ⟨rfl, (Below.refl _ _).alloc (Nat.le_refl _) _⟩)
      | (exfalso; exact HH.out (by omega) (by omega) (by first | rfl | trivial) (by omega) (by omega) (by omega) (by first | omega | exact eq_of_ne (by first | assumption | exact (by assumption : _ ∧ ((n3 : Int) != (n2 : Int)) = false).2)))

set_option maxRecDepth 100000 in
set_option maxHeartbeats 8000000 in
theorem right07_main (u : UnitS) (v : Value) (w : World) (hv : UnitV w v u) (hh : headOk u = true) (hi : allIn u.init u.mod = true) :
    Calls Try.prog 35 #[v] w (BoolBelow (rightU u) w) := by
  obtain ⟨vi, vr, vc, rfl, s1, s2, s3, m1, m2⟩ := hv
  have l1 := s1.len; have l2 := s2.len; have l3 := s3.len
  have S1 := Lib.hid s1
  obtain ⟨a1, c1, rfl, h1⟩ := ints_view s1
  obtain ⟨a2, c2, rfl, h2⟩ := ints_view s2
  obtain ⟨a3, c3, rfl, h3⟩ := slices_view s3
  have H2 := Lib.hid h2; have H3 := Lib.hid h3
  clear s1 s2 s3 h1 h2 h3
  have HH := Lib.hid hh
  have HI := Lib.hid hi
  simp only [headOk, decide_eq_true_eq] at hh
  obtain ⟨g1, g2, g3, g4, g5, g6⟩ := hh
  obtain ⟨res, hres⟩ : ∃ r, rightU u = r := ⟨_, rfl⟩
  have HR := Lib.hid hres
  rw [hres]
  clear hres hi
  obtain ⟨mod, init, regs, code⟩ := u
  dsimp only at *
  obtain ⟨n1, hn1⟩ : ∃ n, init.length = n := ⟨_, rfl⟩
  obtain ⟨n2, hn2⟩ : ∃ n, regs.length = n := ⟨_, rfl⟩
  rw [hn1] at g3 S1 ⊢
  rw [hn2] at g4 g5 g6 ⊢
  rw [g6]
  have N1 := Lib.hid hn1; have N2 := Lib.hid hn2; have N3 := Lib.hid g6
  clear hn1 hn2 g6 l1 l2 l3
  have hBW : Below w.heap.size w (w.alloc (.cells #[.int .i64 mod, .slice a1 n1 c1, .slice a2 n2 c2, .slice a3 n2 c3] 25)) := (Below.refl _ _).alloc (Nat.le_refl _) _
  have q1 := new_cell w #[.int .i64 mod, .slice a1 n1 c1, .slice a2 n2 c2, .slice a3 n2 c3] 25 1 _ rfl
  have q2 := new_cell w #[.int .i64 mod, .slice a1 n1 c1, .slice a2 n2 c2, .slice a3 n2 c3] 25 2 _ rfl
  have q3 := new_cell w #[.int .i64 mod, .slice a1 n1 c1, .slice a2 n2 c2, .slice a3 n2 c3] 25 3 _ rfl
  have hWs : w.heap.size < (w.alloc (.cells #[.int .i64 mod, .slice a1 n1 c1, .slice a2 n2 c2, .slice a3 n2 c3] 25)).heap.size := by simp
  have ZZ : Hid (Below w.heap.size w (w.alloc (.cells #[.int .i64 mod, .slice a1 n1 c1, .slice a2 n2 c2, .slice a3 n2 c3] 25)) ∧ _ ∧ _ ∧ _ ∧ _) := ⟨hBW, q1, q2, q3, hWs⟩
  clear hBW q1 q2 q3 hWs
  go_enter Try.func35, Try.ntmps35
  go_wp2_with (first | (go_at_call 47; refine (all06_any init mod _ _ (S1.out.mono (mono_int _) ZZ.out.1)).mono ?_; rintro e w' ⟨rfl, rfl⟩; rw [HI.out]))
  obtain ⟨hBW, q1, q2, q3, hWs⟩ := ZZ.out
  generalize w.alloc (.cells #[.int .i64 mod, .slice a1 n1 c1, .slice a2 n2 c2, .slice a3 n2 c3] 25) = W at *
  have HW := Lib.hid hBW
  clear hBW ZZ
  go_loopw [3] (fun i wr => ∃ k : Nat, i = .int .i64 k ∧ k ≤ n2 ∧ (∀ j, j < regs.length → j < k → threadOk ⟨mod, init, regs, code⟩ j = true) ∧ Below W.heap.size W wr) (fun i _ => n2 - (intOf i).toNat)
  case atStart => exact ⟨0, rfl, by omega, fun j _ h => absurd h (by omega), Below.refl _ _⟩
  case round =>
    obtain ⟨k, rfl, hk, hall, hb⟩ := hrel
    have Hall := Lib.hid hall; have HB := Lib.hid hb
    have hz := hb.size
    have z1 := cell_later hb q1
    have z2 := cell_later hb q2
    have z3 := cell_later hb q3
    clear hall hb
    by_cases hlt : k < n2
    · have hkr : k < regs.length := by have := N2.out; omega
      have hkc : k < code.length := by have := N3.out; omega
      obtain ⟨b, o, rfl, x1, bd1, bd2⟩ := H2.out k hkr
      obtain ⟨b3, o3, vr, rfl, x3, sr⟩ := H3.out k hkc
      clear bd1 bd2
      obtain ⟨x, hx⟩ : ∃ x, regs[k]'hkr = x := ⟨_, rfl⟩
      obtain ⟨row, hrow⟩ : ∃ r, code[k]'hkc = r := ⟨_, rfl⟩
      rw [hx] at x1
      rw [hrow] at sr
      have HT := Lib.hid (show threadOk ⟨mod, init, regs, code⟩ k = (decide (0 ≤ x ∧ x ≤ 6) && rowOk row x n1) by rw [threadOk_of (u := ⟨mod, init, regs, code⟩) hkr hkc, hx, hrow, N1.out])
      clear hx hrow
      have y1 := cell_later HB.out (cell_later HW.out x1)
      have y3 := cell_later HB.out (cell_later HW.out x3)
      have hl4 := sr.len
      obtain ⟨ar, cr, rfl, hr⟩ := instrs_view sr
      have HRW := Lib.hid hr
      clear x1 x3 sr hr
      have Hbad : Hid (threadOk ⟨mod, init, regs, code⟩ k = false → res = false) := fun h => by rw [← HR.out]; exact rightU_bad (u := ⟨mod, init, regs, code⟩) hkr h
      have Hno : Hid (¬ (0 ≤ x ∧ x ≤ 6) ∨ rowOk row x n1 = false → res = false) := fun h => Hbad.out (by
        rw [HT.out]
        rcases h with h | h
        · rw [decide_eq_false h]; rfl
        · rw [h, Bool.and_false])
      have hend : ∀ w', Below wr.heap.size wr w' → Below w.heap.size w w' := fun w' hb => HW.out.trans ((HB.out.trans (hb.mono hz)).mono (by omega))
      have Hend := Lib.hid hend
      clear hend
      obtain ⟨n4, hn4⟩ : ∃ n, row.length = n := ⟨_, rfl⟩
      rw [hn4] at hl4 y3
      have N4 := Lib.hid hn4
      clear hn4
      by_cases c1 : x < 0
      · have HN := Lib.hid (Hno.out (.inl (by omega)))
        go_wp2_with fail
        go_ret
        exact ⟨by rw [HN.out]; rfl, Hend.out _ (Below.refl _ _)⟩
      by_cases c2 : 6 < x
      · have HN := Lib.hid (Hno.out (.inl (by omega)))
        go_wp2_with fail
        go_ret
        exact ⟨by rw [HN.out]; rfl, Hend.out _ (Below.refl _ _)⟩
      by_cases c3 : n4 = 0
      · have HN := Lib.hid (Hno.out (.inr (rowOk_size (by rw [N4.out]; omega))))
        subst c3
        go_wp2_with fail
        go_ret
        exact ⟨by rw [HN.out]; rfl, Hend.out _ (Below.refl _ _)⟩
      by_cases c4 : 1000 < n4
      · have HN := Lib.hid (Hno.out (.inr (rowOk_size (by rw [N4.out]; omega))))
        go_wp2_with fail
        go_ret
        exact ⟨by rw [HN.out]; rfl, Hend.out _ (Below.refl _ _)⟩
      obtain ⟨m, rfl⟩ : ∃ m, n4 = m + 1 := ⟨n4 - 1, by omega⟩
      have hml : m < row.length := by have := N4.out; omega
      obtain ⟨br, orr, ve, vf, rfl, i0, i1, i2, i3, i4, i5, i6, e1, e2, bd⟩ := HRW.out m hml
      clear bd
      obtain ⟨y, hy⟩ : ∃ y, row[m]'hml = y := ⟨_, rfl⟩
      rw [hy] at i0 i1 i2 i5 i6 e1 e2
      have HL : Hid (∀ h : row.length - 1 < row.length, row[row.length - 1]'h = y) := fun h => by rw [← hy]; congr 1; have := N4.out; omega
      clear hy
      have j0 := cell_later HB.out (cell_later HW.out i0); have j1 := cell_later HB.out (cell_later HW.out i1); have j2 := cell_later HB.out (cell_later HW.out i2); have j3 := cell_later HB.out (cell_later HW.out i3)
      have j4 := cell_later HB.out (cell_later HW.out i4); have j5 := cell_later HB.out (cell_later HW.out i5); have j6 := cell_later HB.out (cell_later HW.out i6)
      have E1 := Lib.hid ((e1.mono mono_op HW.out).mono mono_op HB.out); have E2 := Lib.hid ((e2.mono mono_op HW.out).mono mono_op HB.out)
      clear i0 i1 i2 i3 i4 i5 i6 e1 e2 c3
      have d1 : decide (x < 0) = false := decide_eq_false c1
      have d2 : decide (6 < x) = false := decide_eq_false c2
      have hm9 : m ≤ 999 := by omega
      go_wp2_with fail
      refine (done07_any y ve vf _ E1.out E2.out).mono ?_
      rintro e w1 ⟨rfl, hb1⟩
      have HB1 := Lib.hid (HB.out.trans (hb1.mono hz))
      have pp1 := cell_later hb1 z1; have pp2 := cell_later hb1 z2; have pp3 := cell_later hb1 z3; have ppy := cell_later hb1 y1
      have hz1 := hb1.size
      have Hend1 := Lib.hid (Hend.out _ hb1)
      clear hb1 j0 j1 j2 j3 j4 j5 j6 z1 z2 z3 y1 y3
      cases hd : doneOk y
      · have HN := Lib.hid (Hno.out (.inr (rowOk_last (by omega) (by rw [HL.out (by omega)]; exact hd))))
        clear hd
        go_wp2_with fail
        go_ret
        exact ⟨by rw [HN.out]; rfl, Hend1.out⟩
      have HD := Lib.hid hd
      clear hd
      go_wp2_with fail
      have hrlen : row.length = m + 1 := N4.out
      have HRL := Lib.hid hrlen
      clear hrlen hml
      go_loopw [5] (fun i wq => ∃ t : Nat, i = .int .i64 t ∧ t ≤ m ∧ (∀ j (h : j < row.length), j < t → instrOk x n1 row.length row[j] = true) ∧ Below w1.heap.size w1 wq) (fun i _ => m - (intOf i).toNat)
      case atStart => exact ⟨0, rfl, by omega, fun j _ h => absurd h (by omega), Below.refl _ _⟩
      case round =>
        obtain ⟨t, rfl, ht, halli, hbi⟩ := hrel
        have Halli := Lib.hid halli; have HBI := Lib.hid hbi
        have hzi := hbi.size
        have v1 := cell_later hbi pp1; have v2 := cell_later hbi pp2; have v3 := cell_later hbi pp3; have vy := cell_later hbi ppy
        clear halli hbi
        by_cases hti : t < m
        · have htl : t < row.length := by have := HRL.out; omega
          obtain ⟨br2, or2, ve2, vf2, heq, i0, i1, i2, i3, i4, i5, i6, e1, e2, bd⟩ := HRW.out t htl
          simp only [Option.some.injEq, Addr.mk.injEq, and_true] at heq
          obtain ⟨rfl, rfl⟩ := heq
          clear bd
          obtain ⟨yy, hyy⟩ : ∃ yy, row[t]'htl = yy := ⟨_, rfl⟩
          rw [hyy] at i0 i1 i2 i5 i6 e1 e2
          have HY := Lib.hid hyy; clear hyy
          obtain ⟨op, reg, loc, le, lf, ne, goal⟩ := yy
          dsimp only at i0 i1 i2 i5 i6 e1 e2
          have j0 := cell_later HBI.out (cell_later HB1.out (cell_later HW.out i0)); have j1 := cell_later HBI.out (cell_later HB1.out (cell_later HW.out i1)); have j2 := cell_later HBI.out (cell_later HB1.out (cell_later HW.out i2)); have j3 := cell_later HBI.out (cell_later HB1.out (cell_later HW.out i3))
          have j4 := cell_later HBI.out (cell_later HB1.out (cell_later HW.out i4)); have j5 := cell_later HBI.out (cell_later HB1.out (cell_later HW.out i5)); have j6 := cell_later HBI.out (cell_later HB1.out (cell_later HW.out i6))
          have F1 := Lib.hid (((e1.mono mono_op HW.out).mono mono_op HB1.out).mono mono_op HBI.out); have F2 := Lib.hid (((e2.mono mono_op HW.out).mono mono_op HB1.out).mono mono_op HBI.out)
          clear i0 i1 i2 i3 i4 i5 i6 e1 e2
          have f1 := Later.cell v1; have f2 := Later.cell v2; have fy := Later.cell vy
          have g0 := Later.cell j0; have g1 := Later.cell j1; have g2 := Later.cell j2; have g3 := Later.cell j3; have g4 := Later.cell j4; have g5 := Later.cell j5; have g6 := Later.cell j6
          go_wp2_with fail
          refine wp_region_later (by kernel_rfl) (by kernel_rfl) ?_
          repeat (go_big_quiet_step ((go_at_call 53; exact Calls.later (one07_any op reg loc le lf ne goal ve2 vf2 x n1 ((m : Int) + 1) _ (F1.out.mono mono_op (Later.below _)) (F2.out.mono mono_op (Later.below _))) (fun _ _ h => h))))
          refine wpQuiet_nil ?_
          rintro w4 ⟨⟨w5, hb5⟩, rfl⟩
          clear f1 f2 fy g0 g1 g2 g3 g4 g5 g6 j0 j1 j2 j3 j4 j5 j6 v1 v2 v3 vy
          have HB5 := Lib.hid (HBI.out.trans (hb5.mono hzi))
          clear hb5
          cases hok : instrOk x n1 ((m : Int) + 1) ⟨op, reg, loc, le, lf, ne, goal⟩
          · have HN := Lib.hid (Hno.out (.inr (rowOk_bad (k := t) (by have := HRL.out; omega) (by rw [HY.out, HRL.out]; exact hok))))
            clear hok
            go_wp2_with fail
            go_ret
            exact ⟨by rw [HN.out]; rfl, Hend1.out.trans (HB5.out.mono (by have := Hend1.out.size; omega))⟩
          · have HO := Lib.hid hok
            clear hok
            go_wp2_with fail
            go_roundw
            case rel => exact ⟨t + 1, by go_num, by omega, fun j h2 h3 => by
              rcases Nat.lt_or_ge j t with h | h
              · exact Halli.out j h2 h
              · obtain rfl : j = t := by omega
                rw [HY.out, HRL.out]; exact HO.out, HB5.out⟩
            case measure => simp [intOf]; omega
        · have HO := Lib.hid (show threadOk ⟨mod, init, regs, code⟩ k = true by
            rw [HT.out, decide_eq_true (by omega), rowOk_good (by have := HRL.out; omega) (by have := HRL.out; omega) (by rw [HL.out (by have := HRL.out; omega)]; exact HD.out) (fun j hj => Halli.out j (by omega) (by have := HRL.out; omega))]
            rfl)
          clear v1 v2 v3 vy
          go_wp2_with fail
          go_roundw
          case rel => exact ⟨k + 1, by go_num, by omega, fun j h2 h3 => by
            rcases Nat.lt_or_ge j k with h | h
            · exact Hall.out j h2 h
            · obtain rfl : j = k := by omega
              exact HO.out, HB1.out.trans (HBI.out.mono (by omega))⟩
          case measure => simp [intOf]; omega
    · have HG := Lib.hid (show res = true by rw [← HR.out]; exact rightU_good (u := ⟨mod, init, regs, code⟩) HH.out HI.out (fun j hj => Hall.out j hj (by have := N2.out; dsimp only at hj; omega)))
      go_wp2_with fail
      go_ret
      exact ⟨by rw [HG.out]; rfl, HW.out.trans (HB.out.mono (by omega))⟩

theorem right07_any (u : UnitS) (v : Value) (w : World) (hv : UnitV w v u) : Calls Try.prog 35 #[v] w (BoolBelow (rightU u) w) := by
  cases hh : headOk u
  · rw [rightU_head hh]; exact right07_head u v w hv (.inl hh)
  · cases hi : allIn u.init u.mod
    · rw [rightU_init hi]; exact right07_head u v w hv (.inr hi)
    · exact right07_main u v w hv hh hi

end Go.Proofs.Ytejkhpgahnncnaa
end

section
namespace Go.Proofs.Ytejkhpgahnncnaa
open Go.RowKit
set_option linter.unusedVariables false
set_option linter.unusedSimpArgs false

theorem lightU_head {u : UnitS} (h : ¬ (u.init.length ≤ 20 ∧ u.regs.length ≤ 20 ∧ u.code.length ≤ 8)) : lightU u = false := by simp only [lightU, decide_eq_false h, Bool.false_and]
theorem lightU_bad {u : UnitS} {k : Nat} (hk : k < u.code.length) (h : lightRow u.code[k] = false) : lightU u = false := by
  have : u.code.all lightRow = false := by
    rw [Bool.eq_false_iff]; intro e; rw [List.all_eq_true] at e
    have := e _ (List.getElem_mem hk); rw [h] at this; simp at this
  simp only [lightU, this, Bool.and_false]
theorem lightU_good {u : UnitS} (h : u.init.length ≤ 20 ∧ u.regs.length ≤ 20 ∧ u.code.length ≤ 8) (h2 : ∀ k (hk : k < u.code.length), lightRow u.code[k] = true) : lightU u = true := by
  have : u.code.all lightRow = true := by
    rw [List.all_eq_true]; intro x hx; obtain ⟨k, hk, rfl⟩ := List.getElem_of_mem hx; exact h2 k hk
  simp only [lightU, this, decide_eq_true h, Bool.and_self]
theorem lightRow_size {r : List InstrS} (h : 200 < r.length) : lightRow r = false := by simp only [lightRow, decide_eq_false (show ¬ r.length ≤ 200 by omega), Bool.false_and]
theorem lightRow_bad {r : List InstrS} {k : Nat} (hk : k < r.length) (h : ¬ (r[k].e.length ≤ 300 ∧ r[k].f.length ≤ 300)) : lightRow r = false := by
  have : (r.all fun x => decide (x.e.length ≤ 300 ∧ x.f.length ≤ 300)) = false := by
    rw [Bool.eq_false_iff]; intro e; rw [List.all_eq_true] at e
    have := e _ (List.getElem_mem hk); exact h (of_decide_eq_true this)
  simp only [lightRow, this, Bool.and_false]
theorem lightRow_good {r : List InstrS} (h : r.length ≤ 200) (h2 : ∀ k (hk : k < r.length), r[k].e.length ≤ 300 ∧ r[k].f.length ≤ 300) : lightRow r = true := by
  have : (r.all fun x => decide (x.e.length ≤ 300 ∧ x.f.length ≤ 300)) = true := by
    rw [List.all_eq_true]; intro x hx; obtain ⟨k, hk, rfl⟩ := List.getElem_of_mem hx; exact decide_eq_true (h2 k hk)
  simp only [lightRow, this, decide_eq_true h, Bool.and_self]

set_option maxRecDepth 100000 in
set_option maxHeartbeats 4000000 in
theorem light07_any (u : UnitS) (v : Value) (w : World) (hv : UnitV w v u) : Calls Try.prog 10 #[v] w (BoolBelow (lightU u) w) := by
  obtain ⟨vi, vr, vc, rfl, s1, s2, s3, m1, m2⟩ := hv
  have l1 := s1.len; have l2 := s2.len; have l3 := s3.len
  obtain ⟨a1, c1, rfl, h1⟩ := ints_view s1
  obtain ⟨a2, c2, rfl, h2⟩ := ints_view s2
  obtain ⟨a3, c3, rfl, h3⟩ := slices_view s3
  have H3 := Lib.hid h3
  clear s1 s2 s3 h1 h2 h3
  obtain ⟨res, hres⟩ : ∃ r, lightU u = r := ⟨_, rfl⟩
  have HR := Lib.hid hres
  rw [hres]
  clear hres
  obtain ⟨mod, init, regs, code⟩ := u
  dsimp only at *
  obtain ⟨n1, hn1⟩ : ∃ n, init.length = n := ⟨_, rfl⟩
  obtain ⟨n2, hn2⟩ : ∃ n, regs.length = n := ⟨_, rfl⟩
  obtain ⟨n3, hn3⟩ : ∃ n, code.length = n := ⟨_, rfl⟩
  rw [hn1] at l1 ⊢; rw [hn2] at l2 ⊢; rw [hn3] at l3 ⊢
  have N1 := Lib.hid hn1; have N2 := Lib.hid hn2; have N3 := Lib.hid hn3
  clear hn1 hn2 hn3
  have HA := Lib.hid ((Below.refl w.heap.size w).alloc (Nat.le_refl _) (.cells #[.int .i64 mod, .slice a1 n1 c1, .slice a2 n2 c2, .slice a3 n3 c3] 25))
  by_cases hbig : ¬ (n1 ≤ 20 ∧ n2 ≤ 20 ∧ n3 ≤ 8)
  · have HN := Lib.hid (show res = false by rw [← HR.out]; exact lightU_head (u := ⟨mod, init, regs, code⟩) (by rw [← N1.out, ← N2.out, ← N3.out] at hbig; exact hbig))
    have HH : Hid (n1 ≤ 20 → n2 ≤ 20 → n3 ≤ 8 → False) := fun h1 h2 h3 => hbig ⟨h1, h2, h3⟩
    rw [HN.out]
    clear hbig
    go_enter Try.func10, Try.ntmps10
    go_wp2_with fail
    all_goals
      first
      | (go_ret; exact ⟨rfl, HA.out⟩)
      | (exfalso; exact HH.out (by omega) (by omega) (by omega))
  · obtain ⟨g1, g2, g3⟩ := Decidable.not_not.1 hbig
    clear hbig
    go_enter Try.func10, Try.ntmps10
    go_wp2_with fail
    have q3 := new_cell w #[.int .i64 mod, .slice a1 n1 c1, .slice a2 n2 c2, .slice a3 n3 c3] 25 3 _ rfl
    generalize w.alloc (.cells #[.int .i64 mod, .slice a1 n1 c1, .slice a2 n2 c2, .slice a3 n3 c3] 25) = W at *
    go_loop [3] (fun i => ∃ k : Nat, i = .int .i64 k ∧ k ≤ n3 ∧ ∀ j (h : j < code.length), j < k → lightRow code[j] = true) (fun i => n3 - (intOf i).toNat)
    case atStart => exact ⟨0, rfl, by omega, fun j _ h => absurd h (by omega)⟩
    case round =>
      obtain ⟨k, rfl, hk, hall⟩ := hrel
      have Hall := Lib.hid hall; clear hall
      by_cases hlt : k < n3
      · have hkc : k < code.length := by have := N3.out; omega
        obtain ⟨b3, o3, vr, rfl, x3, sr⟩ := H3.out k hkc
        obtain ⟨row, hrow⟩ : ∃ r, code[k]'hkc = r := ⟨_, rfl⟩
        rw [hrow] at sr
        have HROW := Lib.hid hrow
        clear hrow
        have y3 := cell_later HA.out x3
        have hl4 := sr.len
        obtain ⟨ar, cr, rfl, hr⟩ := instrs_view sr
        have HRW := Lib.hid hr
        clear x3 sr hr
        obtain ⟨n4, hn4⟩ : ∃ n, row.length = n := ⟨_, rfl⟩
        rw [hn4] at hl4 y3
        have N4 := Lib.hid hn4
        clear hn4
        have Hbad : Hid (lightRow row = false → res = false) := fun h => by rw [← HR.out]; exact lightU_bad (u := ⟨mod, init, regs, code⟩) hkc (by show lightRow (code[k]'hkc) = false; rw [HROW.out]; exact h)
        by_cases c4 : 200 < n4
        · have HN := Lib.hid (Hbad.out (lightRow_size (by rw [N4.out]; exact c4)))
          go_wp2_with fail
          go_ret
          exact ⟨by rw [HN.out]; rfl, HA.out⟩
        · go_wp2_with fail
          go_loop [4] (fun i => ∃ t : Nat, i = .int .i64 t ∧ t ≤ n4 ∧ ∀ j (h : j < row.length), j < t → row[j].e.length ≤ 300 ∧ row[j].f.length ≤ 300) (fun i => n4 - (intOf i).toNat)
          case atStart => exact ⟨0, rfl, by omega, fun j _ h => absurd h (by omega)⟩
          case round =>
            obtain ⟨t, rfl, ht, halli⟩ := hrel
            have Halli := Lib.hid halli; clear halli
            by_cases hti : t < n4
            · have htl : t < row.length := by have := N4.out; omega
              obtain ⟨br2, or2, ve2, vf2, rfl, i0, i1, i2, i3, i4, i5, i6, e1, e2, bd⟩ := HRW.out t htl
              obtain ⟨yy, hyy⟩ : ∃ yy, row[t]'htl = yy := ⟨_, rfl⟩
              rw [hyy] at e1 e2
              have HY := Lib.hid hyy
              clear hyy bd i0 i1 i2 i5 i6
              have k1 := e1.len; have k2 := e2.len
              obtain ⟨ae, ce, rfl, _⟩ := ops_view e1
              obtain ⟨af, cf, rfl, _⟩ := ops_view e2
              have j3 := cell_later HA.out i3; have j4 := cell_later HA.out i4
              clear e1 e2 i3 i4
              obtain ⟨p1, hp1⟩ : ∃ n, yy.e.length = n := ⟨_, rfl⟩
              obtain ⟨p2, hp2⟩ : ∃ n, yy.f.length = n := ⟨_, rfl⟩
              rw [hp1] at j3 k1
              rw [hp2] at j4 k2
              have P1 := Lib.hid hp1; have P2 := Lib.hid hp2
              clear hp1 hp2
              by_cases d1 : 300 < p1
              · have HN := Lib.hid (Hbad.out (lightRow_bad htl (by rw [HY.out, P1.out, P2.out]; omega)))
                go_wp2_with fail
                go_ret
                exact ⟨by rw [HN.out]; rfl, HA.out⟩
              · by_cases d2 : 300 < p2
                · have HN := Lib.hid (Hbad.out (lightRow_bad htl (by rw [HY.out, P1.out, P2.out]; omega)))
                  go_wp2_with fail
                  go_ret
                  exact ⟨by rw [HN.out]; rfl, HA.out⟩
                · go_wp2_with fail
                  go_round
                  case rel => exact ⟨t + 1, by go_num, by omega, fun j h2 h3 => by
                    rcases Nat.lt_or_ge j t with h | h
                    · exact Halli.out j h2 h
                    · obtain rfl : j = t := by omega
                      rw [HY.out, P1.out, P2.out]; omega⟩
                  case measure => simp [intOf]; omega
            · have HG := Lib.hid (show lightRow row = true from lightRow_good (by rw [N4.out]; omega) (fun j hj => Halli.out j hj (by have := N4.out; omega)))
              go_wp2_with fail
              go_round
              case rel => exact ⟨k + 1, by go_num, by omega, fun j h2 h3 => by
                rcases Nat.lt_or_ge j k with h | h
                · exact Hall.out j h2 h
                · obtain rfl : j = k := by omega
                  rw [HROW.out]; exact HG.out⟩
              case measure => simp [intOf]; omega
      · have HG := Lib.hid (show res = true by rw [← HR.out]; exact lightU_good (u := ⟨mod, init, regs, code⟩) (by show init.length ≤ 20 ∧ regs.length ≤ 20 ∧ code.length ≤ 8; rw [N1.out, N2.out, N3.out]; exact ⟨g1, g2, g3⟩) (fun j hj => Hall.out j hj (by have := N3.out; dsimp only at hj; omega)))
        go_wp2_with fail
        go_ret
        exact ⟨by rw [HG.out]; rfl, HA.out⟩

end Go.Proofs.Ytejkhpgahnncnaa
end

section
namespace Go.Proofs.Ytejkhpgahnncnaa
open Go.RowKit
set_option linter.unusedVariables false
set_option linter.unusedSimpArgs false

/-- The cell k of the block b holds v, and may be written. -/
def VarAt (w : World) (b k : Nat) (v : Value) : Prop := w.cell? ⟨b, k, none⟩ = some v ∧ w.frozen? ⟨b, k, none⟩ = false

theorem VarAt.lt {w : World} {b k : Nat} {v : Value} (h : VarAt w b k v) : b < w.heap.size := World.block_lt_of_cell? _ _ h.1
theorem VarAt.later {w w' : World} {b k : Nat} {v : Value} (h : VarAt w b k v) (hb : Below w.heap.size w w') : VarAt w' b k v :=
  ⟨cell_later hb h.1, (hb.frozen (p := ⟨b, k, none⟩) h.lt).trans h.2⟩
theorem VarAt.new (w : World) (cs : Array Value) (E : TypeId) (k : Nat) (u : Value) (h : cs[k]? = some u) : VarAt (w.alloc (.cells cs E)) w.heap.size k u := by
  refine ⟨by simp [h], ?_⟩
  simp
theorem VarAt.set {w : World} {b k : Nat} {v : Value} (h : VarAt w b k v) (u : Value) : VarAt (w.setCell ⟨b, k, none⟩ u) b k u :=
  ⟨World.cell?_setCell_same _ _ _ h.1, (World.frozen?_setCell _ _ _ _).trans h.2⟩
theorem VarAt.other {w : World} {b k : Nat} {v : Value} (h : VarAt w b k v) {p : Addr} (hp : p.block ≠ b ∨ p.off ≠ k) (u : Value) : VarAt (w.setCell p u) b k v := by
  refine ⟨?_, (World.frozen?_setCell _ _ _ _).trans h.2⟩
  rw [World.cell?_setCell_other]
  · exact h.1
  · rintro rfl
    simp at hp
theorem VarAt.drew {w : World} {b k : Nat} {v : Value} (h : VarAt w b k v) (n : Nat) : VarAt (w.drewN n) b k v := h.later (below_drewN (Below.refl _ _) n)

end Go.Proofs.Ytejkhpgahnncnaa
end

