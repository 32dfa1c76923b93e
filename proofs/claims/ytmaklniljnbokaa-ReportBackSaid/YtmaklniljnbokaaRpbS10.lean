/- Parts of the proofs: what they lean on. Conditions: none. -/
import Derived.Laws.EntriesVeiled
import Derived.MapKept
import Derived.WideMake
import Derived.Test.YtmaklniljnbokaaProg
import Derived.Test.YtmaklniljnbokaaRpbS9
section
namespace Go.Proofs.Ytmaklniljnbokaa
open Go.RowKit
set_option linter.unusedVariables false
set_option linter.unusedSimpArgs false

def takesOf (op : Int) : Int := if op = 5 then 1 else if 6 ≤ op ∧ op ≤ 14 then 2 else 0
def doVal (op : Int) : Value :=
  if op = 5 then .func (.func 70) #[] #[]
  else if op = 6 then .func (.func 72) #[] #[]
  else if op = 7 then .func (.func 73) #[] #[]
  else if op = 8 then .func (.func 74) #[] #[]
  else if op = 9 then .func (.func 75) #[] #[]
  else if op = 10 then .func (.func 76) #[] #[]
  else if op = 11 then .func (.func 77) #[] #[]
  else if op = 12 then .func (.func 78) #[] #[]
  else if op = 13 then .func (.func 79) #[] #[]
  else if op = 14 then .func (.func 80) #[] #[]
  else .nilFunc

def OfPost (op : Int) (w : World) (e : Ending) (w' : World) : Prop := e = .returned (.tuple #[.agg #[.int .i64 (takesOf op), doVal op], .bool (decide (5 ≤ op ∧ op ≤ 14))]) ∧ Below w.heap.size w w'

end Go.Proofs.Ytmaklniljnbokaa
end

section
namespace Go.Proofs.Ytmaklniljnbokaa
open Go.RowKit
set_option linter.unusedVariables false
set_option linter.unusedSimpArgs false

set_option maxRecDepth 100000 in
set_option maxHeartbeats 2000000 in
theorem of_5 (w : World) : Calls Try.prog 69 #[.int .i64 5] w (OfPost 5 w) := by
  go_enter Try.func69, Try.ntmps69
  go_upto_region 1 with (fail)
  iterate 31 go_step
  refine wpList_run rfl (.agg #[.int .i64 0, .nilFunc, .int .i64 0, .nilFunc, .int .i64 0, .nilFunc, .int .i64 0, .nilFunc, .int .i64 0, .nilFunc, .int .i64 1, .func (.func 70) #[] #[], .int .i64 2, .func (.func 72) #[] #[], .int .i64 2, .func (.func 73) #[] #[], .int .i64 2, .func (.func 74) #[] #[], .int .i64 2, .func (.func 75) #[] #[], .int .i64 2, .func (.func 76) #[] #[], .int .i64 2, .func (.func 77) #[] #[], .int .i64 2, .func (.func 78) #[] #[], .int .i64 2, .func (.func 79) #[] #[], .int .i64 2, .func (.func 80) #[] #[]]) (by kernel_rfl) ?_
  iterate 3 go_step
  refine wpList_store_new (W := w.alloc _) rfl _ _ _ rfl _ (w.heap.size + 1) (by simp) rfl rfl (by kernel_rfl) rfl (by kernel_rfl) ?_
  go_wp2
  refine bodyPost_ret (v := .tuple #[.agg #[.int .i64 1, .func (.func 70) #[] #[]], .bool true]) (by simp [results, Try.results69, go_sem]) rfl ?_
  exact ⟨rfl, ((Below.refl _ _).alloc (Nat.le_refl _) _).alloc (by simp) _⟩

set_option maxRecDepth 100000 in
set_option maxHeartbeats 2000000 in
theorem of_6 (w : World) : Calls Try.prog 69 #[.int .i64 6] w (OfPost 6 w) := by
  go_enter Try.func69, Try.ntmps69
  go_upto_region 1 with (fail)
  iterate 31 go_step
  refine wpList_run rfl (.agg #[.int .i64 0, .nilFunc, .int .i64 0, .nilFunc, .int .i64 0, .nilFunc, .int .i64 0, .nilFunc, .int .i64 0, .nilFunc, .int .i64 1, .func (.func 70) #[] #[], .int .i64 2, .func (.func 72) #[] #[], .int .i64 2, .func (.func 73) #[] #[], .int .i64 2, .func (.func 74) #[] #[], .int .i64 2, .func (.func 75) #[] #[], .int .i64 2, .func (.func 76) #[] #[], .int .i64 2, .func (.func 77) #[] #[], .int .i64 2, .func (.func 78) #[] #[], .int .i64 2, .func (.func 79) #[] #[], .int .i64 2, .func (.func 80) #[] #[]]) (by kernel_rfl) ?_
  iterate 3 go_step
  refine wpList_store_new (W := w.alloc _) rfl _ _ _ rfl _ (w.heap.size + 1) (by simp) rfl rfl (by kernel_rfl) rfl (by kernel_rfl) ?_
  go_wp2
  refine bodyPost_ret (v := .tuple #[.agg #[.int .i64 2, .func (.func 72) #[] #[]], .bool true]) (by simp [results, Try.results69, go_sem]) rfl ?_
  exact ⟨rfl, ((Below.refl _ _).alloc (Nat.le_refl _) _).alloc (by simp) _⟩

set_option maxRecDepth 100000 in
set_option maxHeartbeats 2000000 in
theorem of_7 (w : World) : Calls Try.prog 69 #[.int .i64 7] w (OfPost 7 w) := by
  go_enter Try.func69, Try.ntmps69
  go_upto_region 1 with (fail)
  iterate 31 go_step
  refine wpList_run rfl (.agg #[.int .i64 0, .nilFunc, .int .i64 0, .nilFunc, .int .i64 0, .nilFunc, .int .i64 0, .nilFunc, .int .i64 0, .nilFunc, .int .i64 1, .func (.func 70) #[] #[], .int .i64 2, .func (.func 72) #[] #[], .int .i64 2, .func (.func 73) #[] #[], .int .i64 2, .func (.func 74) #[] #[], .int .i64 2, .func (.func 75) #[] #[], .int .i64 2, .func (.func 76) #[] #[], .int .i64 2, .func (.func 77) #[] #[], .int .i64 2, .func (.func 78) #[] #[], .int .i64 2, .func (.func 79) #[] #[], .int .i64 2, .func (.func 80) #[] #[]]) (by kernel_rfl) ?_
  iterate 3 go_step
  refine wpList_store_new (W := w.alloc _) rfl _ _ _ rfl _ (w.heap.size + 1) (by simp) rfl rfl (by kernel_rfl) rfl (by kernel_rfl) ?_
  go_wp2
  refine bodyPost_ret (v := .tuple #[.agg #[.int .i64 2, .func (.func 73) #[] #[]], .bool true]) (by simp [results, Try.results69, go_sem]) rfl ?_
  exact ⟨rfl, ((Below.refl _ _).alloc (Nat.le_refl _) _).alloc (by simp) _⟩

set_option maxRecDepth 100000 in
set_option maxHeartbeats 2000000 in
theorem of_8 (w : World) : Calls Try.prog 69 #[.int .i64 8] w (OfPost 8 w) := by
  go_enter Try.func69, Try.ntmps69
  go_upto_region 1 with (fail)
  iterate 31 go_step
  refine wpList_run rfl (.agg #[.int .i64 0, .nilFunc, .int .i64 0, .nilFunc, .int .i64 0, .nilFunc, .int .i64 0, .nilFunc, .int .i64 0, .nilFunc, .int .i64 1, .func (.func 70) #[] #[], .int .i64 2, .func (.func 72) #[] #[], .int .i64 2, .func (.func 73) #[] #[], .int .i64 2, .func (.func 74) #[] #[], .int .i64 2, .func (.func 75) #[] #[], .int .i64 2, .func (.func 76) #[] #[], .int .i64 2, .func (.func 77) #[] #[], .int .i64 2, .func (.func 78) #[] #[], .int .i64 2, .func (.func 79) #[] #[], .int .i64 2, .func (.func 80) #[] #[]]) (by kernel_rfl) ?_
  iterate 3 go_step
  refine wpList_store_new (W := w.alloc _) rfl _ _ _ rfl _ (w.heap.size + 1) (by simp) rfl rfl (by kernel_rfl) rfl (by kernel_rfl) ?_
  go_wp2
  refine bodyPost_ret (v := .tuple #[.agg #[.int .i64 2, .func (.func 74) #[] #[]], .bool true]) (by simp [results, Try.results69, go_sem]) rfl ?_
  exact ⟨rfl, ((Below.refl _ _).alloc (Nat.le_refl _) _).alloc (by simp) _⟩

set_option maxRecDepth 100000 in
set_option maxHeartbeats 2000000 in
theorem of_9 (w : World) : Calls Try.prog 69 #[.int .i64 9] w (OfPost 9 w) := by
  go_enter Try.func69, Try.ntmps69
  go_upto_region 1 with (fail)
  iterate 31 go_step
  refine wpList_run rfl (.agg #[.int .i64 0, .nilFunc, .int .i64 0, .nilFunc, .int .i64 0, .nilFunc, .int .i64 0, .nilFunc, .int .i64 0, .nilFunc, .int .i64 1, .func (.func 70) #[] #[], .int .i64 2, .func (.func 72) #[] #[], .int .i64 2, .func (.func 73) #[] #[], .int .i64 2, .func (.func 74) #[] #[], .int .i64 2, .func (.func 75) #[] #[], .int .i64 2, .func (.func 76) #[] #[], .int .i64 2, .func (.func 77) #[] #[], .int .i64 2, .func (.func 78) #[] #[], .int .i64 2, .func (.func 79) #[] #[], .int .i64 2, .func (.func 80) #[] #[]]) (by kernel_rfl) ?_
  iterate 3 go_step
  refine wpList_store_new (W := w.alloc _) rfl _ _ _ rfl _ (w.heap.size + 1) (by simp) rfl rfl (by kernel_rfl) rfl (by kernel_rfl) ?_
  go_wp2
  refine bodyPost_ret (v := .tuple #[.agg #[.int .i64 2, .func (.func 75) #[] #[]], .bool true]) (by simp [results, Try.results69, go_sem]) rfl ?_
  exact ⟨rfl, ((Below.refl _ _).alloc (Nat.le_refl _) _).alloc (by simp) _⟩

end Go.Proofs.Ytmaklniljnbokaa
end

section
namespace Go.Proofs.Ytmaklniljnbokaa
open Go.RowKit
set_option linter.unusedVariables false
set_option linter.unusedSimpArgs false

set_option maxRecDepth 100000 in
set_option maxHeartbeats 2000000 in
theorem of_10 (w : World) : Calls Try.prog 69 #[.int .i64 10] w (OfPost 10 w) := by
  go_enter Try.func69, Try.ntmps69
  go_upto_region 1 with (fail)
  iterate 31 go_step
  refine wpList_run rfl (.agg #[.int .i64 0, .nilFunc, .int .i64 0, .nilFunc, .int .i64 0, .nilFunc, .int .i64 0, .nilFunc, .int .i64 0, .nilFunc, .int .i64 1, .func (.func 70) #[] #[], .int .i64 2, .func (.func 72) #[] #[], .int .i64 2, .func (.func 73) #[] #[], .int .i64 2, .func (.func 74) #[] #[], .int .i64 2, .func (.func 75) #[] #[], .int .i64 2, .func (.func 76) #[] #[], .int .i64 2, .func (.func 77) #[] #[], .int .i64 2, .func (.func 78) #[] #[], .int .i64 2, .func (.func 79) #[] #[], .int .i64 2, .func (.func 80) #[] #[]]) (by kernel_rfl) ?_
  iterate 3 go_step
  refine wpList_store_new (W := w.alloc _) rfl _ _ _ rfl _ (w.heap.size + 1) (by simp) rfl rfl (by kernel_rfl) rfl (by kernel_rfl) ?_
  go_wp2
  refine bodyPost_ret (v := .tuple #[.agg #[.int .i64 2, .func (.func 76) #[] #[]], .bool true]) (by simp [results, Try.results69, go_sem]) rfl ?_
  exact ⟨rfl, ((Below.refl _ _).alloc (Nat.le_refl _) _).alloc (by simp) _⟩

set_option maxRecDepth 100000 in
set_option maxHeartbeats 2000000 in
theorem of_11 (w : World) : Calls Try.prog 69 #[.int .i64 11] w (OfPost 11 w) := by
  go_enter Try.func69, Try.ntmps69
  go_upto_region 1 with (fail)
  iterate 31 go_step
  refine wpList_run rfl (.agg #[.int .i64 0, .nilFunc, .int .i64 0, .nilFunc, .int .i64 0, .nilFunc, .int .i64 0, .nilFunc, .int .i64 0, .nilFunc, .int .i64 1, .func (.func 70) #[] #[], .int .i64 2, .func (.func 72) #[] #[], .int .i64 2, .func (.func 73) #[] #[], .int .i64 2, .func (.func 74) #[] #[], .int .i64 2, .func (.func 75) #[] #[], .int .i64 2, .func (.func 76) #[] #[], .int .i64 2, .func (.func 77) #[] #[], .int .i64 2, .func (.func 78) #[] #[], .int .i64 2, .func (.func 79) #[] #[], .int .i64 2, .func (.func 80) #[] #[]]) (by kernel_rfl) ?_
  iterate 3 go_step
  refine wpList_store_new (W := w.alloc _) rfl _ _ _ rfl _ (w.heap.size + 1) (by simp) rfl rfl (by kernel_rfl) rfl (by kernel_rfl) ?_
  go_wp2
  refine bodyPost_ret (v := .tuple #[.agg #[.int .i64 2, .func (.func 77) #[] #[]], .bool true]) (by simp [results, Try.results69, go_sem]) rfl ?_
  exact ⟨rfl, ((Below.refl _ _).alloc (Nat.le_refl _) _).alloc (by simp) _⟩

set_option maxRecDepth 100000 in
set_option maxHeartbeats 2000000 in
theorem of_12 (w : World) : Calls Try.prog 69 #[.int .i64 12] w (OfPost 12 w) := by
  go_enter Try.func69, Try.ntmps69
  go_upto_region 1 with (fail)
  iterate 31 go_step
  refine wpList_run rfl (.agg #[.int .i64 0, .nilFunc, .int .i64 0, .nilFunc, .int .i64 0, .nilFunc, .int .i64 0, .nilFunc, .int .i64 0, .nilFunc, .int .i64 1, .func (.func 70) #[] #[], .int .i64 2, .func (.func 72) #[] #[], .int .i64 2, .func (.func 73) #[] #[], .int .i64 2, .func (.func 74) #[] #[], .int .i64 2, .func (.func 75) #[] #[], .int .i64 2, .func (.func 76) #[] #[], .int .i64 2, .func (.func 77) #[] #[], .int .i64 2, .func (.func 78) #[] #[], .int .i64 2, .func (.func 79) #[] #[], .int .i64 2, .func (.func 80) #[] #[]]) (by kernel_rfl) ?_
  iterate 3 go_step
  refine wpList_store_new (W := w.alloc _) rfl _ _ _ rfl _ (w.heap.size + 1) (by simp) rfl rfl (by kernel_rfl) rfl (by kernel_rfl) ?_
  go_wp2
  refine bodyPost_ret (v := .tuple #[.agg #[.int .i64 2, .func (.func 78) #[] #[]], .bool true]) (by simp [results, Try.results69, go_sem]) rfl ?_
  exact ⟨rfl, ((Below.refl _ _).alloc (Nat.le_refl _) _).alloc (by simp) _⟩

set_option maxRecDepth 100000 in
set_option maxHeartbeats 2000000 in
theorem of_13 (w : World) : Calls Try.prog 69 #[.int .i64 13] w (OfPost 13 w) := by
  go_enter Try.func69, Try.ntmps69
  go_upto_region 1 with (fail)
  iterate 31 go_step
  refine wpList_run rfl (.agg #[.int .i64 0, .nilFunc, .int .i64 0, .nilFunc, .int .i64 0, .nilFunc, .int .i64 0, .nilFunc, .int .i64 0, .nilFunc, .int .i64 1, .func (.func 70) #[] #[], .int .i64 2, .func (.func 72) #[] #[], .int .i64 2, .func (.func 73) #[] #[], .int .i64 2, .func (.func 74) #[] #[], .int .i64 2, .func (.func 75) #[] #[], .int .i64 2, .func (.func 76) #[] #[], .int .i64 2, .func (.func 77) #[] #[], .int .i64 2, .func (.func 78) #[] #[], .int .i64 2, .func (.func 79) #[] #[], .int .i64 2, .func (.func 80) #[] #[]]) (by kernel_rfl) ?_
  iterate 3 go_step
  refine wpList_store_new (W := w.alloc _) rfl _ _ _ rfl _ (w.heap.size + 1) (by simp) rfl rfl (by kernel_rfl) rfl (by kernel_rfl) ?_
  go_wp2
  refine bodyPost_ret (v := .tuple #[.agg #[.int .i64 2, .func (.func 79) #[] #[]], .bool true]) (by simp [results, Try.results69, go_sem]) rfl ?_
  exact ⟨rfl, ((Below.refl _ _).alloc (Nat.le_refl _) _).alloc (by simp) _⟩

set_option maxRecDepth 100000 in
set_option maxHeartbeats 2000000 in
theorem of_14 (w : World) : Calls Try.prog 69 #[.int .i64 14] w (OfPost 14 w) := by
  go_enter Try.func69, Try.ntmps69
  go_upto_region 1 with (fail)
  iterate 31 go_step
  refine wpList_run rfl (.agg #[.int .i64 0, .nilFunc, .int .i64 0, .nilFunc, .int .i64 0, .nilFunc, .int .i64 0, .nilFunc, .int .i64 0, .nilFunc, .int .i64 1, .func (.func 70) #[] #[], .int .i64 2, .func (.func 72) #[] #[], .int .i64 2, .func (.func 73) #[] #[], .int .i64 2, .func (.func 74) #[] #[], .int .i64 2, .func (.func 75) #[] #[], .int .i64 2, .func (.func 76) #[] #[], .int .i64 2, .func (.func 77) #[] #[], .int .i64 2, .func (.func 78) #[] #[], .int .i64 2, .func (.func 79) #[] #[], .int .i64 2, .func (.func 80) #[] #[]]) (by kernel_rfl) ?_
  iterate 3 go_step
  refine wpList_store_new (W := w.alloc _) rfl _ _ _ rfl _ (w.heap.size + 1) (by simp) rfl rfl (by kernel_rfl) rfl (by kernel_rfl) ?_
  go_wp2
  refine bodyPost_ret (v := .tuple #[.agg #[.int .i64 2, .func (.func 80) #[] #[]], .bool true]) (by simp [results, Try.results69, go_sem]) rfl ?_
  exact ⟨rfl, ((Below.refl _ _).alloc (Nat.le_refl _) _).alloc (by simp) _⟩

end Go.Proofs.Ytmaklniljnbokaa
end

section
namespace Go.Proofs.Ytmaklniljnbokaa
open Go.RowKit
set_option linter.unusedVariables false
set_option linter.unusedSimpArgs false

set_option maxRecDepth 100000 in
set_option maxHeartbeats 4000000 in
theorem of_any (op : Int) (w : World) : Calls Try.prog 69 #[.int .i64 op] w (OfPost op w) := by
  by_cases h : 5 ≤ op ∧ op ≤ 14
  · have hc : op = 5 ∨ op = 6 ∨ op = 7 ∨ op = 8 ∨ op = 9 ∨ op = 10 ∨ op = 11 ∨ op = 12 ∨ op = 13 ∨ op = 14 := by omega
    clear h
    rcases hc with rfl | rfl | rfl | rfl | rfl | rfl | rfl | rfl | rfl | rfl
    all_goals first | exact of_5 w | exact of_6 w | exact of_7 w | exact of_8 w | exact of_9 w | exact of_10 w | exact of_11 w | exact of_12 w | exact of_13 w | exact of_14 w
  · have ht : takesOf op = 0 := by simp only [takesOf]; rw [if_neg (by omega), if_neg (by omega)]
    have hd : doVal op = .nilFunc := by
      simp only [doVal]
      repeat rw [if_neg (by omega)]
    have hb : decide (5 ≤ op ∧ op ≤ 14) = false := decide_eq_false h
    have HT := Lib.hid ht; have HD := Lib.hid hd; have HB := Lib.hid hb
    clear ht hd hb
    by_cases h5 : op < 5
    · clear h
      go_enter Try.func69, Try.ntmps69
      go_upto_region 1 with (fail)
      iterate 31 go_step
      refine wpList_run rfl (.agg #[.int .i64 0, .nilFunc, .int .i64 0, .nilFunc, .int .i64 0, .nilFunc, .int .i64 0, .nilFunc, .int .i64 0, .nilFunc, .int .i64 1, .func (.func 70) #[] #[], .int .i64 2, .func (.func 72) #[] #[], .int .i64 2, .func (.func 73) #[] #[], .int .i64 2, .func (.func 74) #[] #[], .int .i64 2, .func (.func 75) #[] #[], .int .i64 2, .func (.func 76) #[] #[], .int .i64 2, .func (.func 77) #[] #[], .int .i64 2, .func (.func 78) #[] #[], .int .i64 2, .func (.func 79) #[] #[], .int .i64 2, .func (.func 80) #[] #[]]) (by kernel_rfl) ?_
      iterate 3 go_step
      refine wpList_store_new (W := w.alloc _) rfl _ _ _ rfl _ (w.heap.size + 1) (by simp) rfl rfl (by kernel_rfl) rfl (by kernel_rfl) ?_
      go_wp2
      refine bodyPost_ret (v := .tuple #[.agg #[.int .i64 0, .nilFunc], .bool false]) (by simp [results, Try.results69, go_sem]) rfl ?_
      exact ⟨by rw [HT.out, HD.out, HB.out], ((Below.refl _ _).alloc (Nat.le_refl _) _).alloc (by simp) _⟩
    · have h14 : 15 ≤ op := by omega
      clear h
      go_enter Try.func69, Try.ntmps69
      go_upto_region 1 with (fail)
      iterate 31 go_step
      refine wpList_run rfl (.agg #[.int .i64 0, .nilFunc, .int .i64 0, .nilFunc, .int .i64 0, .nilFunc, .int .i64 0, .nilFunc, .int .i64 0, .nilFunc, .int .i64 1, .func (.func 70) #[] #[], .int .i64 2, .func (.func 72) #[] #[], .int .i64 2, .func (.func 73) #[] #[], .int .i64 2, .func (.func 74) #[] #[], .int .i64 2, .func (.func 75) #[] #[], .int .i64 2, .func (.func 76) #[] #[], .int .i64 2, .func (.func 77) #[] #[], .int .i64 2, .func (.func 78) #[] #[], .int .i64 2, .func (.func 79) #[] #[], .int .i64 2, .func (.func 80) #[] #[]]) (by kernel_rfl) ?_
      iterate 3 go_step
      refine wpList_store_new (W := w.alloc _) rfl _ _ _ rfl _ (w.heap.size + 1) (by simp) rfl rfl (by kernel_rfl) rfl (by kernel_rfl) ?_
      go_wp2
      refine bodyPost_ret (v := .tuple #[.agg #[.int .i64 0, .nilFunc], .bool false]) (by simp [results, Try.results69, go_sem]) rfl ?_
      exact ⟨by rw [HT.out, HD.out, HB.out], ((Below.refl _ _).alloc (Nat.le_refl _) _).alloc (by simp) _⟩

end Go.Proofs.Ytmaklniljnbokaa
end

section
namespace Go.Proofs.Ytmaklniljnbokaa
open Go.RowKit
set_option linter.unusedVariables false
set_option linter.unusedSimpArgs false

def OfIs (t : Int) (fv : Value) (ok : Bool) (w : World) (e : Ending) (w' : World) : Prop := e = .returned (.tuple #[.agg #[.int .i64 t, fv], .bool ok]) ∧ Below w.heap.size w w'

theorem of_leaf (op : Int) (w : World) (h : ¬ (5 ≤ op ∧ op ≤ 14)) : Calls Try.prog 69 #[.int .i64 op] w (OfIs 0 .nilFunc false w) :=
  (of_any op w).mono fun e w' ⟨he, hb⟩ => by
    have ht : takesOf op = 0 := by simp only [takesOf]; rw [if_neg (by omega), if_neg (by omega)]
    have hd : doVal op = .nilFunc := by
      simp only [doVal]
      repeat rw [if_neg (by omega)]
    have hbb : decide (5 ≤ op ∧ op ≤ 14) = false := decide_eq_false h
    rw [ht, hd, hbb] at he
    exact ⟨he, hb⟩

theorem doVal_fn {op : Int} (h : 5 ≤ op ∧ op ≤ 14) : ∃ f : Nat, doVal op = .func (.func f) #[] #[] := by
  have hc : op = 5 ∨ op = 6 ∨ op = 7 ∨ op = 8 ∨ op = 9 ∨ op = 10 ∨ op = 11 ∨ op = 12 ∨ op = 13 ∨ op = 14 := by omega
  rcases hc with rfl | rfl | rfl | rfl | rfl | rfl | rfl | rfl | rfl | rfl
  all_goals exact ⟨_, rfl⟩

theorem of_op (op : Int) (w : World) (h : 5 ≤ op ∧ op ≤ 14) (t : Int) (ht : takesOf op = t) (f : Nat) (hf : doVal op = .func (.func f) #[] #[]) : Calls Try.prog 69 #[.int .i64 op] w (OfIs t (.func (.func f) #[] #[]) true w) :=
  (of_any op w).mono fun e w' ⟨he, hb⟩ => by
    have hbb : decide (5 ≤ op ∧ op ≤ 14) = true := decide_eq_true h
    rw [ht, hf, hbb] at he
    exact ⟨he, hb⟩

theorem takes_two {op : Int} (h : 6 ≤ op ∧ op ≤ 14) : takesOf op = 2 := by simp only [takesOf]; rw [if_neg (by omega), if_pos h]

def LiesBPost (l : List OpS) (w : World) (e : Ending) (w' : World) : Prop := e = .returned (.tuple #[.int .i64 (liesL l).1, .int .i64 (liesL l).2]) ∧ Below w.heap.size w w'

set_option maxRecDepth 100000 in
set_option maxHeartbeats 8000000 in
theorem lies_any (l : List OpS) (v : Value) (w : World) (hv : Sl rOp w v l) : Calls Try.prog 68 #[v] w (LiesBPost l w) := by
  have hl := hv.len
  obtain ⟨a, c, rfl, hc⟩ := ops_view hv
  have HC := Lib.hid hc; clear hc hv
  go_enter Try.func68, Try.ntmps68
  go_wp2
  go_loopw [4, 5, 13] (fun n m i wr => ∃ (k : Nat) (nn mm : Int), i = .int .i64 k ∧ n = .int .i64 nn ∧ m = .int .i64 mm ∧ k ≤ l.length ∧ 0 ≤ nn ∧ nn ≤ k ∧ 0 ≤ mm ∧ mm ≤ k ∧ liesGo (l.drop k) nn mm = liesL l ∧ Below w.heap.size w wr) (fun _ _ i _ => l.length - (intOf i).toNat)
  case atStart => exact ⟨0, 0, 0, rfl, rfl, rfl, by omega, by omega, by omega, by omega, by omega, rfl, Below.refl _ _⟩
  case round =>
    obtain ⟨k, nn, mm, rfl, rfl, rfl, hk, hn1, hn2, hm1, hm2, hrel, hb⟩ := hrel
    have HR := Lib.hid hrel; have HB := Lib.hid hb; have hz := hb.size; clear hrel hb
    by_cases hlt : k < l.length
    · obtain ⟨b, o, rfl, x1, x2, x3, _⟩ := HC.out k hlt
      have y1 := cell_later HB.out x1; have y2 := cell_later HB.out x2; have y3 := cell_later HB.out x3
      clear x1 x2 x3
      have HD := Lib.hid (lies_drop hlt nn mm)
      obtain ⟨x, hx⟩ : ∃ x, l[k] = x := ⟨_, rfl⟩
      rw [hx] at y1 y2 y3 HD
      clear hx
      by_cases c1 : 1 ≤ x.op ∧ x.op ≤ 4
      · have h5 : ¬ (5 ≤ x.op ∧ x.op ≤ 14) := by omega
        have HD1 := Lib.hid (HD.out.trans (if_pos c1))
        obtain ⟨c1a, c1b⟩ := c1
        have H5 := Lib.hid h5; clear h5
        go_wp2_with fail
        refine (of_leaf x.op _ H5.out).mono ?_
        rintro e w2 ⟨rfl, hb2⟩
        have q0 : w2.cell? ⟨wr.heap.size, 0, none⟩ = some (.int .i64 x.op) := by rw [(bcell hb2).1 _ _ (by simp)]; simp [go_sem]
        have hz2 := hb2.size
        simp only [World.size_alloc] at hz2
        have hne : wr.heap.size ≠ w2.heap.size := by omega
        have hlt2 : wr.heap.size < w2.heap.size := by omega
        have HB2 := Lib.hid ((HB.out.alloc hz _).trans (hb2.mono (by simp; omega)))
        clear hb2
        go_wp2
        all_goals
          go_roundw
          case rel => exact ⟨k + 1, nn + 1, max mm (nn + 1), by go_num, by go_num, by go_num, by omega, by omega, by omega, by omega, by omega, by rw [← HR.out, HD1.out], HB2.out.alloc (by omega) _⟩
          case measure => simp [intOf]; omega
      · by_cases c2 : x.op = 5 ∧ 1 ≤ nn
        · have HD1 := Lib.hid (HD.out.trans ((if_neg c1).trans (if_pos c2)))
          obtain ⟨c2a, c2b⟩ := c2
          obtain ⟨f, hf⟩ := doVal_fn (op := x.op) (by omega)
          have Hf := Lib.hid hf; clear hf
          have H5 : Hid (5 ≤ x.op ∧ x.op ≤ 14) := by simp only [Hid]; omega
          have HT : Hid (takesOf x.op = 1) := by simp only [Hid, takesOf]; rw [if_pos c2a]
          have h1 : ¬ x.op ≤ 4 := by omega
          have h1b : 1 ≤ x.op := by omega
          clear c1 c2a
          go_wp2_with fail
          refine (of_op x.op _ H5.out 1 HT.out f Hf.out).mono ?_
          rintro e w2 ⟨rfl, hb2⟩
          have q0 : w2.cell? ⟨wr.heap.size, 0, none⟩ = some (.int .i64 x.op) := by rw [(bcell hb2).1 _ _ (by simp)]; simp [go_sem]
          have hz2 := hb2.size
          simp only [World.size_alloc] at hz2
          have hne : wr.heap.size ≠ w2.heap.size := by omega
          have hlt2 : wr.heap.size < w2.heap.size := by omega
          have HB2 := Lib.hid ((HB.out.alloc hz _).trans (hb2.mono (by simp; omega)))
          clear hb2
          go_wp2
          all_goals
            go_roundw
            case rel => exact ⟨k + 1, nn, max mm (nn), by go_num, by go_num, by go_num, by omega, by omega, by omega, by omega, by omega, by rw [← HR.out, HD1.out], HB2.out.alloc (by omega) _⟩
            case measure => simp [intOf]; omega
        · by_cases c3 : 6 ≤ x.op ∧ x.op ≤ 14 ∧ 2 ≤ nn
          · have HD1 := Lib.hid (HD.out.trans ((if_neg c1).trans ((if_neg c2).trans (if_pos c3))))
            obtain ⟨c3a, c3b, c3c⟩ := c3
            obtain ⟨f, hf⟩ := doVal_fn (op := x.op) (by omega)
            have Hf := Lib.hid hf; clear hf
            have H5 : Hid (5 ≤ x.op ∧ x.op ≤ 14) := by simp only [Hid]; omega
            have HT : Hid (takesOf x.op = 2) := takes_two ⟨c3a, c3b⟩
            clear c1 c2
            go_wp2_with fail
            refine (of_op x.op _ H5.out 2 HT.out f Hf.out).mono ?_
            rintro e w2 ⟨rfl, hb2⟩
            have q0 : w2.cell? ⟨wr.heap.size, 0, none⟩ = some (.int .i64 x.op) := by rw [(bcell hb2).1 _ _ (by simp)]; simp [go_sem]
            have hz2 := hb2.size
            simp only [World.size_alloc] at hz2
            have hne : wr.heap.size ≠ w2.heap.size := by omega
            have hlt2 : wr.heap.size < w2.heap.size := by omega
            have HB2 := Lib.hid ((HB.out.alloc hz _).trans (hb2.mono (by simp; omega)))
            clear hb2
            go_wp2
            all_goals
              go_roundw
              case rel => exact ⟨k + 1, nn - 1, max mm (nn - 1), by go_num, by go_num, by go_num, by omega, by omega, by omega, by omega, by omega, by rw [← HR.out, HD1.out], HB2.out.alloc (by omega) _⟩
              case measure => simp [intOf]; omega
          · have HF := Lib.hid (show liesL l = (-1, -1) by rw [← HR.out, HD.out, if_neg c1, if_neg c2, if_neg c3])
            by_cases h5 : 5 ≤ x.op ∧ x.op ≤ 14
            · obtain ⟨f, hf⟩ := doVal_fn h5
              have Hf := Lib.hid hf; clear hf
              have H5 := Lib.hid h5
              by_cases h6 : x.op = 5
              · have HT : Hid (takesOf x.op = 1) := by simp only [Hid, takesOf]; rw [if_pos h6]
                have hn : nn < 1 := by omega
                have h1b : 1 ≤ x.op := by omega
                have h1 : ¬ x.op ≤ 4 := by omega
                clear c1 c2 c3 h5 h6
                go_wp2_with fail
                refine (of_op x.op _ H5.out 1 HT.out f Hf.out).mono ?_
                rintro e w2 ⟨rfl, hb2⟩
                have q0 : w2.cell? ⟨wr.heap.size, 0, none⟩ = some (.int .i64 x.op) := by rw [(bcell hb2).1 _ _ (by simp)]; simp [go_sem]
                have hz2 := hb2.size
                simp only [World.size_alloc] at hz2
                have hne : wr.heap.size ≠ w2.heap.size := by omega
                have hlt2 : wr.heap.size < w2.heap.size := by omega
                have HB2 := Lib.hid ((HB.out.alloc hz _).trans (hb2.mono (by simp; omega)))
                clear hb2
                go_wp2
                go_ret2
                exact ⟨by rw [HF.out]; rfl, HB2.out.alloc (by omega) _⟩
              · have HT : Hid (takesOf x.op = 2) := takes_two (by omega)
                have hn : nn < 2 := by omega
                have h1b : 1 ≤ x.op := by omega
                have h1 : ¬ x.op ≤ 4 := by omega
                clear c1 c2 c3 h5 h6
                go_wp2_with fail
                refine (of_op x.op _ H5.out 2 HT.out f Hf.out).mono ?_
                rintro e w2 ⟨rfl, hb2⟩
                have q0 : w2.cell? ⟨wr.heap.size, 0, none⟩ = some (.int .i64 x.op) := by rw [(bcell hb2).1 _ _ (by simp)]; simp [go_sem]
                have hz2 := hb2.size
                simp only [World.size_alloc] at hz2
                have hne : wr.heap.size ≠ w2.heap.size := by omega
                have hlt2 : wr.heap.size < w2.heap.size := by omega
                have HB2 := Lib.hid ((HB.out.alloc hz _).trans (hb2.mono (by simp; omega)))
                clear hb2
                go_wp2
                go_ret2
                exact ⟨by rw [HF.out]; rfl, HB2.out.alloc (by omega) _⟩
            · have H5 := Lib.hid h5
              by_cases h1 : x.op < 1
              · clear c1 c2 c3 h5
                go_wp2_with fail
                refine (of_leaf x.op _ H5.out).mono ?_
                rintro e w2 ⟨rfl, hb2⟩
                have q0 : w2.cell? ⟨wr.heap.size, 0, none⟩ = some (.int .i64 x.op) := by rw [(bcell hb2).1 _ _ (by simp)]; simp [go_sem]
                have hz2 := hb2.size
                simp only [World.size_alloc] at hz2
                have hne : wr.heap.size ≠ w2.heap.size := by omega
                have hlt2 : wr.heap.size < w2.heap.size := by omega
                have HB2 := Lib.hid ((HB.out.alloc hz _).trans (hb2.mono (by simp; omega)))
                clear hb2
                go_wp2
                go_ret2
                exact ⟨by rw [HF.out]; rfl, HB2.out.alloc (by omega) _⟩
              · have h14 : 14 < x.op := by omega
                clear c1 c2 c3 h5
                go_wp2_with fail
                refine (of_leaf x.op _ H5.out).mono ?_
                rintro e w2 ⟨rfl, hb2⟩
                have q0 : w2.cell? ⟨wr.heap.size, 0, none⟩ = some (.int .i64 x.op) := by rw [(bcell hb2).1 _ _ (by simp)]; simp [go_sem]
                have hz2 := hb2.size
                simp only [World.size_alloc] at hz2
                have hne : wr.heap.size ≠ w2.heap.size := by omega
                have hlt2 : wr.heap.size < w2.heap.size := by omega
                have HB2 := Lib.hid ((HB.out.alloc hz _).trans (hb2.mono (by simp; omega)))
                clear hb2
                go_wp2
                go_ret2
                exact ⟨by rw [HF.out]; rfl, HB2.out.alloc (by omega) _⟩
    · have hd : l.drop k = [] := List.drop_eq_nil_of_le (by omega)
      have HF := Lib.hid (show liesL l = (nn, mm) by rw [← HR.out, hd]; rfl)
      go_wp2
      go_ret2
      exact ⟨by rw [HF.out]; rfl, HB.out⟩

end Go.Proofs.Ytmaklniljnbokaa
end

section
namespace Go.Proofs.Ytmaklniljnbokaa
open Go.RowKit
set_option linter.unusedVariables false
set_option linter.unusedSimpArgs false

set_option maxRecDepth 100000 in
set_option maxHeartbeats 8000000 in
theorem rightC_any (l : List OpS) (regs : List Int) (own locs : Int) (v vr : Value) (w : World) (hv : Sl rOp w v l) (hr : Sl rI w vr regs) :
    Calls Try.prog 66 #[v, vr, .int .i64 own, .int .i64 locs] w (RightCPost l regs own locs w) := by
  have hl := hv.len
  have hl2 := hr.len
  have HV := Lib.hid hv
  obtain ⟨a, c, rfl, hc⟩ := ops_view hv
  obtain ⟨a2, c2, rfl, hc2⟩ := ints_view hr
  have HC := Lib.hid hc; have HC2 := Lib.hid hc2; clear hc hc2 hv hr
  go_enter Try.func66, Try.ntmps66
  go_wp2
  go_loopw [16] (fun i wr => ∃ k : Nat, i = .int .i64 k ∧ k ≤ l.length ∧ (∀ j (h : j < l.length), j < k → opOk regs own locs l[j] = true) ∧ Below w.heap.size w wr) (fun i _ => l.length - (intOf i).toNat)
  case atStart => exact ⟨0, rfl, by omega, fun j _ h => absurd h (by omega), Below.refl _ _⟩
  case round =>
    obtain ⟨k, rfl, hk, hall, hb⟩ := hrel
    have Hall := Lib.hid hall; have HB := Lib.hid hb
    have hz := hb.size
    clear hall hb
    by_cases hlt : k < l.length
    · obtain ⟨b, o, rfl, x1, x2, x3, _⟩ := HC.out k hlt
      have y1 := cell_later HB.out x1; have y2 := cell_later HB.out x2; have y3 := cell_later HB.out x3
      clear x1 x2 x3
      obtain ⟨x, hx⟩ : ∃ x, l[k] = x := ⟨_, rfl⟩
      have Hrel : Hid (opOk regs own locs x = true → ∀ j (h : j < l.length), j < k + 1 → opOk regs own locs l[j] = true) := fun hox j h2 h3 => by
        rcases Nat.lt_or_ge j k with h | h
        · exact Hall.out j h2 h
        · obtain rfl : j = k := by omega
          rw [hx]; exact hox
      have Hbad : Hid (∀ w', opOk regs own locs x = false → Below w.heap.size w w' → RightCPost l regs own locs w (.returned (.bool false)) w') := fun w' hox hbb => rightC_no hlt (by rw [hx]; exact hox) hbb
      rw [hx] at y1 y2 y3
      clear hx
      by_cases c1 : x.op = 1
      · have d1 : (x.op == 1) = true := ib_yes c1
        have HE := Lib.hid (show opOk regs own locs x = inB x.n 10000 by simp [opOk, c1])
        by_cases hb1 : x.n < 0
        · clear c1
          go_wp2
          go_ret
          exact Hbad.out _ (by rw [HE.out]; exact in_false (.inl hb1)) (HB.out.alloc hz _)
        · by_cases hb2 : 10000 ≤ x.n
          · clear c1
            go_wp2
            go_ret
            exact Hbad.out _ (by rw [HE.out]; exact in_false (.inr hb2)) (HB.out.alloc hz _)
          · clear c1
            go_wp2
            go_roundw
            case rel => exact ⟨k + 1, by go_num, by omega, Hrel.out (by rw [HE.out]; exact in_true (by omega)), HB.out.alloc hz _⟩
            case measure => simp [intOf]; omega
      · have d1 : (x.op == 1) = false := ib_no c1
        by_cases c2 : x.op = 2
        · have d2 : (x.op == 2) = true := ib_yes c2
          have HE := Lib.hid (show opOk regs own locs x = inB x.n own by simp [opOk, c2])
          by_cases hb1 : x.n < 0
          · clear c1 c2
            go_wp2
            go_ret
            exact Hbad.out _ (by rw [HE.out]; exact in_false (.inl hb1)) (HB.out.alloc hz _)
          · by_cases hb2 : own ≤ x.n
            · clear c1 c2
              go_wp2
              go_ret
              exact Hbad.out _ (by rw [HE.out]; exact in_false (.inr hb2)) (HB.out.alloc hz _)
            · clear c1 c2
              go_wp2
              go_roundw
              case rel => exact ⟨k + 1, by go_num, by omega, Hrel.out (by rw [HE.out]; exact in_true (by omega)), HB.out.alloc hz _⟩
              case measure => simp [intOf]; omega
        · have d2 : (x.op == 2) = false := ib_no c2
          by_cases c3 : x.op = 3
          · have d3 : (x.op == 3) = true := ib_yes c3
            have HE := Lib.hid (show opOk regs own locs x = inB x.n locs by simp [opOk, c3])
            by_cases hb1 : x.n < 0
            · clear c1 c2 c3
              go_wp2
              go_ret
              exact Hbad.out _ (by rw [HE.out]; exact in_false (.inl hb1)) (HB.out.alloc hz _)
            · by_cases hb2 : locs ≤ x.n
              · clear c1 c2 c3
                go_wp2
                go_ret
                exact Hbad.out _ (by rw [HE.out]; exact in_false (.inr hb2)) (HB.out.alloc hz _)
              · clear c1 c2 c3
                go_wp2
                go_roundw
                case rel => exact ⟨k + 1, by go_num, by omega, Hrel.out (by rw [HE.out]; exact in_true (by omega)), HB.out.alloc hz _⟩
                case measure => simp [intOf]; omega
          · have d3 : (x.op == 3) = false := ib_no c3
            by_cases c4 : x.op = 4
            · have d4 : (x.op == 4) = true := ib_yes c4
              cases ht : inB x.t regs.length
              · have HE := Lib.hid (opOk4_no (own := own) (locs := locs) c4 ht)
                simp only [inB, decide_eq_false_iff_not] at ht
                by_cases t1 : x.t < 0
                · by_cases hb1 : x.n < 0
                  all_goals
                    clear c1 c2 c3 c4 ht
                    go_wp2
                    go_ret
                    exact Hbad.out _ HE.out (HB.out.alloc hz _)
                · have t2 : (regs.length : Int) ≤ x.t := by omega
                  by_cases hb1 : x.n < 0
                  all_goals
                    clear c1 c2 c3 c4 ht
                    go_wp2
                    go_ret
                    exact Hbad.out _ HE.out (HB.out.alloc hz _)
              · have ht2 := ht
                simp only [inB, decide_eq_true_eq] at ht2
                obtain ⟨t1, t2⟩ := ht2
                obtain ⟨tn, htn⟩ := Int.eq_ofNat_of_zero_le t1
                rw [htn] at t2 y3 ht
                have t3 : tn < regs.length := by omega
                obtain ⟨b2, o2, rfl, z1, _⟩ := HC2.out tn t3
                have z2 := cell_later HB.out z1
                have HE := Lib.hid (opOk4 (own := own) (locs := locs) c4 htn t3)
                clear z1 t1 htn ht
                obtain ⟨m, hm⟩ : ∃ m, regs[tn] = m := ⟨_, rfl⟩
                rw [hm] at z2 HE
                clear hm
                have hlb : b2 < wr.heap.size := World.block_lt_of_cell? _ _ z2
                have hlb3 : b2 ≠ wr.heap.size := by omega
                by_cases hb1 : x.n < 0
                · clear c1 c2 c3 c4
                  go_wp2
                  go_ret
                  exact Hbad.out _ (by rw [HE.out]; exact in_false (.inl hb1)) (HB.out.alloc hz _)
                · by_cases hb2 : m ≤ x.n
                  · clear c1 c2 c3 c4
                    go_wp2
                    go_ret
                    exact Hbad.out _ (by rw [HE.out]; exact in_false (.inr hb2)) (HB.out.alloc hz _)
                  · clear c1 c2 c3 c4
                    go_wp2
                    go_roundw
                    case rel => exact ⟨k + 1, by go_num, by omega, Hrel.out (by rw [HE.out]; exact in_true (by omega)), HB.out.alloc hz _⟩
                    case measure => simp [intOf]; omega
            · have d4 : (x.op == 4) = false := ib_no c4
              have HE := Lib.hid (show opOk regs own locs x = true by simp [opOk, c1, c2, c3, c4])
              clear c1 c2 c3 c4
              go_wp2
              go_roundw
              case rel => exact ⟨k + 1, by go_num, by omega, Hrel.out HE.out, HB.out.alloc hz _⟩
              case measure => simp [intOf]; omega
    · have HG := Lib.hid (rightC_good (regs := regs) (own := own) (locs := locs) (l := l) (fun j hj => Hall.out j hj (by omega)))
      go_wp2_with fail
      refine (lies_any l _ _ (HV.out.mono mono_op HB.out)).mono ?_
      rintro e w' ⟨rfl, hb2⟩
      have HB2 := Lib.hid (HB.out.trans (hb2.mono hz)); clear hb2
      go_wp2
      go_ret
      exact ⟨by rw [HG.out]; rfl, HB2.out⟩

end Go.Proofs.Ytmaklniljnbokaa
end

section
namespace Go.Proofs.Ytmaklniljnbokaa
open Go.RowKit
set_option linter.unusedVariables false
set_option linter.unusedSimpArgs false

set_option maxHeartbeats 400000 in
theorem place_any (has : Bool) (n m : Int) (w : World) : Calls Try.prog 67 #[.bool has, .int .i64 n, .int .i64 m] w fun e w' => e = .returned (.bool (placeB has n m)) ∧ w = w' := by
  cases has
  all_goals
    go_enter Try.func67, Try.ntmps67
    go_wp2
    all_goals
      go_ret
      refine ⟨congrArg (fun b => Ending.returned (.bool b)) ?_, rfl⟩
      rw [Bool.eq_iff_iff]
      simp [placeB, inB]
      try omega

set_option maxHeartbeats 400000 in
theorem done_any (x : InstrS) (ve vf : Value) (w : World) (he : Sl rOp w ve x.e) (hf : Sl rOp w vf x.f) :
    Calls Try.prog 61 #[.agg #[.int .i64 x.op, .int .i64 x.reg, .int .i64 x.loc, ve, vf, .bool x.ne, .int .i64 x.goal]] w fun e w' => e = .returned (.bool (doneOk x)) ∧ Below w.heap.size w w' := by
  have hl1 := he.len
  have hl2 := hf.len
  obtain ⟨a, c, rfl, _⟩ := ops_view he
  obtain ⟨a2, c2, rfl, _⟩ := ops_view hf
  clear he hf
  obtain ⟨op, reg, loc, le, lf, ne, goal⟩ := x
  cases ne
  all_goals
    go_enter Try.func61, Try.ntmps61
    go_wp2
    all_goals
      go_ret
      refine ⟨congrArg (fun b => Ending.returned (.bool b)) ?_, (Below.refl _ _).alloc (Nat.le_refl _) _⟩
      rw [Bool.eq_iff_iff]
      simp [doneOk, List.isEmpty_iff, ← List.length_eq_zero_iff]
      try first | omega | (intros; simp only [Go.RowKit.wrap64]; omega)

end Go.Proofs.Ytmaklniljnbokaa
end

section
namespace Go.Proofs.Ytmaklniljnbokaa
open Go.RowKit
set_option linter.unusedVariables false
set_option linter.unusedSimpArgs false

theorem heap_set_new (W : World) (o o' : Obj) : ({ W.alloc o with heap := (W.alloc o).heap.setIfInBounds W.heap.size o' } : World) = W.alloc o' := by
  simp only [World.alloc]
  congr 1
  apply Array.ext_getElem?
  intro i
  rw [Array.getElem?_setIfInBounds, Array.getElem?_push, Array.getElem?_push]
  by_cases h : W.heap.size = i
  · subst h; simp
  · rw [if_neg h, if_neg (by omega), if_neg (by omega)]

theorem wpList_makeMap {P : Program} {ops : Array Oper} {rest : List Oper} {o : Oper} {a : Act} {Q : Exit → Act → World → Prop} {w : World} (hg : o.guard = none) (t : TypeId) (hop : o.op = Op.makeMap t none)
    (hK : wpList P ops Q rest (a.put o.dst (.map (some w.heap.size))) (w.alloc (.map #[] 0))) : wpList P ops Q (o :: rest) a w := by
  refine wpList_plain hg fun K' hK' => ?_
  unfold Oper.wp
  simp [execOp, hop, run_makeMap_plain, Result.andThen]
  exact hK' _ _ hK

theorem wpList_insert_new {P : Program} {ops : Array Oper} {rest : List Oper} {o : Oper} {a : Act} {Q : Exit → Act → World → Prop} {W : World} {es : Array MapEntry} {clock : Nat}
    (hg : o.guard = none) (m x v : Operand) (t : TypeId) (hop : o.op = Op.insert t m x v) (k e : TypeId) (ht : P.underlying t = some (.map k e)) (q : IntKind) (hk : P.underlying k = some (.int q))
    (b : Nat) (hb : b = W.heap.size) (hm : a.eval m = .map (some b)) (n : Int) (val : Value) (hx : a.eval x = .int q n) (hv : a.eval v = val) (hf : Instr.findNow (.int q) (.int q n) es.toList 0 = some none)
    (hK : wpList P ops Q rest (a.put o.dst undef) (W.alloc (.map (es.push ⟨.int q n, val, clock⟩) (clock + 1)))) : wpList P ops Q (o :: rest) a (W.alloc (.map es clock)) := by
  subst hb
  have hb : (W.alloc (.map es clock)).heap[W.heap.size]? = some (.map es clock) := heap_alloc_new W _
  have hi : MapKept.IsKey (.int q) (.int q n) := rfl
  refine wpList_plain hg fun K' hK' => ?_
  unfold Oper.wp
  have hr : (Instr.mapUpdate t (.map (some W.heap.size)) (.int q n) val).run P (W.alloc (.map es clock)) = .ok () (W.alloc (.map (es.push ⟨.int q n, val, clock⟩) (clock + 1))) := by
    simp only [Instr.mapUpdate, Sem.run_bind, run_underlying ht, MapKept.run_getObj_map hb, MapKept.run_checkKey hk hi, MapKept.run_findKey hk hf, MapKept.run_setObj_map _ hb, Result.andThen, heap_set_new]
  simp [execOp, hop, hm, hx, hv, hr, Result.andThen]
  exact hK' _ _ hK

theorem wpList_lookup_ok {P : Program} {ops : Array Oper} {rest : List Oper} {o : Oper} {a : Act} {Q : Exit → Act → World → Prop} {w : World} {es : Array MapEntry} {clock : Nat}
    (hg : o.guard = none) (m x : Operand) (t : TypeId) (hop : o.op = Op.lookup t m x true) (k e : TypeId) (ht : P.underlying t = some (.map k e)) (q : IntKind) (hk : P.underlying k = some (.int q))
    (b : Nat) (hb : w.heap[b]? = some (.map es clock)) (hm : a.eval m = .map (some b)) (n : Int) (hx : a.eval x = .int q n) (z : Value) (hz : (zeroValue e).run P w = .ok z w) (v : Value) (ok : Bool)
    (hf : (∃ i, Instr.findNow (.int q) (.int q n) es.toList 0 = some (some (i, v)) ∧ ok = true) ∨ Instr.findNow (.int q) (.int q n) es.toList 0 = some none ∧ v = z ∧ ok = false)
    (hK : wpList P ops Q rest (a.put o.dst (.tuple #[v, .bool ok])) w) : wpList P ops Q (o :: rest) a w := by
  have hi : MapKept.IsKey (.int q) (.int q n) := rfl
  refine wpList_plain hg fun K' hK' => ?_
  unfold Oper.wp
  have hr : (Instr.lookup t (.map (some b)) (.int q n) true).run P w = .ok (.tuple #[v, .bool ok]) w := by
    rcases hf with ⟨i, hf, rfl⟩ | ⟨hf, rfl, rfl⟩
    · simp [Instr.lookup, run_underlying ht, MapKept.run_getObj_map hb, MapKept.run_checkKey hk hi, MapKept.run_findKey hk hf, Result.andThen]
    · simp [Instr.lookup, run_underlying ht, MapKept.run_getObj_map hb, MapKept.run_checkKey hk hi, MapKept.run_findKey hk hf, Result.andThen, hz]
  simp [execOp, hop, hm, hx, hr, Result.andThen]
  exact hK' _ _ hK

end Go.Proofs.Ytmaklniljnbokaa
end

section
namespace Go.Proofs.Ytmaklniljnbokaa
open Go.RowKit
set_option linter.unusedVariables false
set_option linter.unusedSimpArgs false

def needsVal : Option Needs → Value
  | none => .agg #[.bool false, .bool false, .bool false, .bool false, .bool false, .bool false]
  | some n => .agg #[.bool n.reg, .bool n.loc, .bool n.e, .bool n.f, .bool n.ne, .bool n.goal]

def needsRow : Array MapEntry := #[⟨.int .i64 2, .agg #[.bool true, .bool false, .bool true, .bool false, .bool false, .bool false], 0⟩, ⟨.int .i64 3, .agg #[.bool true, .bool true, .bool false, .bool false, .bool false, .bool false], 1⟩, ⟨.int .i64 4, .agg #[.bool false, .bool true, .bool true, .bool false, .bool false, .bool false], 2⟩, ⟨.int .i64 5, .agg #[.bool true, .bool true, .bool true, .bool true, .bool false, .bool false], 3⟩, ⟨.int .i64 6, .agg #[.bool true, .bool true, .bool true, .bool false, .bool false, .bool false], 4⟩, ⟨.int .i64 7, .agg #[.bool true, .bool true, .bool true, .bool false, .bool false, .bool false], 5⟩, ⟨.int .i64 8, .agg #[.bool false, .bool false, .bool false, .bool false, .bool false, .bool false], 6⟩, ⟨.int .i64 9, .agg #[.bool false, .bool true, .bool true, .bool false, .bool true, .bool false], 7⟩, ⟨.int .i64 20, .agg #[.bool false, .bool false, .bool false, .bool false, .bool false, .bool true], 8⟩, ⟨.int .i64 21, .agg #[.bool false, .bool false, .bool true, .bool false, .bool false, .bool true], 9⟩]

theorem needs_find (op : Int) : (∃ i, Instr.findNow (.int .i64) (.int .i64 op) needsRow.toList 0 = some (some (i, needsVal (needsOf op))) ∧ (needsOf op).isSome = true) ∨
    Instr.findNow (.int .i64) (.int .i64 op) needsRow.toList 0 = some none ∧ needsVal (needsOf op) = needsVal none ∧ (needsOf op).isSome = false := by
  by_cases h : op = 2 ∨ op = 3 ∨ op = 4 ∨ op = 5 ∨ op = 6 ∨ op = 7 ∨ op = 8 ∨ op = 9 ∨ op = 20 ∨ op = 21
  · left
    rcases h with rfl | rfl | rfl | rfl | rfl | rfl | rfl | rfl | rfl | rfl
    all_goals exact ⟨_, rfl, rfl⟩
  · right
    have hn : needsOf op = none := by
      simp only [needsOf]
      repeat rw [if_neg (by omega)]
    refine ⟨?_, by rw [hn], by rw [hn]; rfl⟩
    rcases MapKept.findNow_spec (d := .int .i64) (k := .int .i64 op) rfl needsRow.toList 0 (by
      intro x hx
      simp only [needsRow, List.mem_cons, List.not_mem_nil, or_false] at hx
      rcases hx with rfl | rfl | rfl | rfl | rfl | rfl | rfl | rfl | rfl | rfl
      all_goals rfl) with ⟨h1, _⟩ | ⟨j, e, _, h2, h3⟩
    · exact h1
    · exfalso
      have hm := List.mem_of_getElem? h2
      simp only [needsRow, List.mem_cons, List.not_mem_nil, or_false] at hm
      rcases hm with rfl | rfl | rfl | rfl | rfl | rfl | rfl | rfl | rfl | rfl
      all_goals
        simp only [Value.int.injEq, true_and] at h3
        omega

theorem needsVal_bools (n : Option Needs) : ∃ b1 b2 b3 b4 b5 b6 : Bool, needsVal n = .agg #[.bool b1, .bool b2, .bool b3, .bool b4, .bool b5, .bool b6] := by
  cases n
  all_goals exact ⟨_, _, _, _, _, _, rfl⟩

def NeedsPost (op : Int) (w : World) (e : Ending) (w' : World) : Prop := e = .returned (.tuple #[needsVal (needsOf op), .bool (needsOf op).isSome]) ∧ Below w.heap.size w w'

set_option maxRecDepth 100000 in
set_option maxHeartbeats 4000000 in
theorem needs_any (op : Int) (w : World) : Calls Try.prog 64 #[.int .i64 op] w (NeedsPost op w) := by
  go_enter Try.func64, Try.ntmps64
  go_upto_region 1 with (fail)
  go_step
  refine wpList_makeMap rfl _ rfl ?_
  iterate 3 go_step
  refine wpList_insert_new (W := w.alloc _) rfl _ _ _ _ rfl _ _ Try.underlying118 _ Try.underlying3 (w.heap.size + 1) (by simp) ?hm 2 (.agg #[.bool true, .bool false, .bool true, .bool false, .bool false, .bool false]) ?hx ?hv ?hf ?_
  case hm => rfl
  case hx => rfl
  case hv => rfl
  case hf => kernel_rfl
  iterate 3 go_step
  refine wpList_insert_new (W := w.alloc _) rfl _ _ _ _ rfl _ _ Try.underlying118 _ Try.underlying3 (w.heap.size + 1) (by simp) ?hm 3 (.agg #[.bool true, .bool true, .bool false, .bool false, .bool false, .bool false]) ?hx ?hv ?hf ?_
  case hm => rfl
  case hx => rfl
  case hv => rfl
  case hf => kernel_rfl
  iterate 3 go_step
  refine wpList_insert_new (W := w.alloc _) rfl _ _ _ _ rfl _ _ Try.underlying118 _ Try.underlying3 (w.heap.size + 1) (by simp) ?hm 4 (.agg #[.bool false, .bool true, .bool true, .bool false, .bool false, .bool false]) ?hx ?hv ?hf ?_
  case hm => rfl
  case hx => rfl
  case hv => rfl
  case hf => kernel_rfl
  iterate 3 go_step
  refine wpList_insert_new (W := w.alloc _) rfl _ _ _ _ rfl _ _ Try.underlying118 _ Try.underlying3 (w.heap.size + 1) (by simp) ?hm 5 (.agg #[.bool true, .bool true, .bool true, .bool true, .bool false, .bool false]) ?hx ?hv ?hf ?_
  case hm => rfl
  case hx => rfl
  case hv => rfl
  case hf => kernel_rfl
  iterate 3 go_step
  refine wpList_insert_new (W := w.alloc _) rfl _ _ _ _ rfl _ _ Try.underlying118 _ Try.underlying3 (w.heap.size + 1) (by simp) ?hm 6 (.agg #[.bool true, .bool true, .bool true, .bool false, .bool false, .bool false]) ?hx ?hv ?hf ?_
  case hm => rfl
  case hx => rfl
  case hv => rfl
  case hf => kernel_rfl
  iterate 3 go_step
  refine wpList_insert_new (W := w.alloc _) rfl _ _ _ _ rfl _ _ Try.underlying118 _ Try.underlying3 (w.heap.size + 1) (by simp) ?hm 7 (.agg #[.bool true, .bool true, .bool true, .bool false, .bool false, .bool false]) ?hx ?hv ?hf ?_
  case hm => rfl
  case hx => rfl
  case hv => rfl
  case hf => kernel_rfl
  iterate 3 go_step
  refine wpList_insert_new (W := w.alloc _) rfl _ _ _ _ rfl _ _ Try.underlying118 _ Try.underlying3 (w.heap.size + 1) (by simp) ?hm 8 (.agg #[.bool false, .bool false, .bool false, .bool false, .bool false, .bool false]) ?hx ?hv ?hf ?_
  case hm => rfl
  case hx => rfl
  case hv => rfl
  case hf => kernel_rfl
  iterate 3 go_step
  refine wpList_insert_new (W := w.alloc _) rfl _ _ _ _ rfl _ _ Try.underlying118 _ Try.underlying3 (w.heap.size + 1) (by simp) ?hm 9 (.agg #[.bool false, .bool true, .bool true, .bool false, .bool true, .bool false]) ?hx ?hv ?hf ?_
  case hm => rfl
  case hx => rfl
  case hv => rfl
  case hf => kernel_rfl
  iterate 3 go_step
  refine wpList_insert_new (W := w.alloc _) rfl _ _ _ _ rfl _ _ Try.underlying118 _ Try.underlying3 (w.heap.size + 1) (by simp) ?hm 20 (.agg #[.bool false, .bool false, .bool false, .bool false, .bool false, .bool true]) ?hx ?hv ?hf ?_
  case hm => rfl
  case hx => rfl
  case hv => rfl
  case hf => kernel_rfl
  iterate 3 go_step
  refine wpList_insert_new (W := w.alloc _) rfl _ _ _ _ rfl _ _ Try.underlying118 _ Try.underlying3 (w.heap.size + 1) (by simp) ?hm 21 (.agg #[.bool false, .bool false, .bool true, .bool false, .bool false, .bool true]) ?hx ?hv ?hf ?_
  case hm => rfl
  case hx => rfl
  case hv => rfl
  case hf => kernel_rfl
  change wpList _ _ _ _ _ (World.alloc _ (.map needsRow 10))
  obtain ⟨rows, hrows⟩ : ∃ r, r = needsRow := ⟨_, rfl⟩
  rw [← hrows]
  have hf := needs_find op
  rw [← hrows] at hf
  clear hrows
  go_upto_region 2 with (fail)
  iterate 7 go_step
  refine wpList_lookup_ok rfl _ _ _ rfl _ _ Try.underlying118 _ Try.underlying3 (w.heap.size + 1) (es := rows) (clock := 10) ?hb rfl op rfl (needsVal none) ?hz (needsVal (needsOf op)) (needsOf op).isSome hf ?_
  case hb =>
    have h := heap_alloc_new (w.alloc (.cells #[.bool false, .bool false, .bool false, .bool false, .bool false, .bool false] 113)) (.map rows 10)
    rwa [World.size_alloc] at h
  case hz => kernel_rfl
  obtain ⟨b1, b2, b3, b4, b5, b6, hV⟩ := needsVal_bools (needsOf op)
  have HV := Lib.hid hV
  rw [hV]
  obtain ⟨ok, hok⟩ : ∃ ok, (needsOf op).isSome = ok := ⟨_, rfl⟩
  have HK := Lib.hid hok
  rw [hok]
  clear hf hV hok
  go_wp2
  refine bodyPost_ret (v := .tuple #[.agg #[.bool b1, .bool b2, .bool b3, .bool b4, .bool b5, .bool b6], .bool ok]) (by simp [results, Try.results64, go_sem]) rfl ?_
  exact ⟨by rw [HV.out, HK.out], by
    refine Below.alloc (Below.alloc (Below.alloc (Below.refl _ _) (Nat.le_refl _) _) ?_ _) ?_ _
    all_goals simp only [World.size_alloc]
    all_goals omega⟩

end Go.Proofs.Ytmaklniljnbokaa
end

section
namespace Go.Proofs.Ytmaklniljnbokaa
open Go.RowKit
set_option linter.unusedVariables false
set_option linter.unusedSimpArgs false

def BoolBelow (b : Bool) (w : World) (e : Ending) (w' : World) : Prop := e = .returned (.bool b) ∧ Below w.heap.size w w'

set_option maxRecDepth 100000 in
set_option maxHeartbeats 1000000 in
theorem fits1_any (has : Bool) (l : List OpS) (regs : Int) (b : Nat) (v : Value) (w : World) (hv : Sl rOp w v l) (hc : w.cell? ⟨b, 0, none⟩ = some (.int .i64 regs)) :
    Calls Try.prog 65 #[.bool has, v, .pointer (some ⟨b, 0, none⟩)] w (BoolBelow (codeB has l regs) w) := by
  have hl := hv.len
  have HV := Lib.hid hv
  obtain ⟨a, c, rfl, _⟩ := ops_view hv
  clear hv
  cases has
  · go_enter Try.func65, Try.ntmps65
    go_wp2
    all_goals
      go_ret
      refine ⟨congrArg (fun b => Ending.returned (.bool b)) ?_, Below.refl _ _⟩
      rw [Bool.eq_iff_iff]
      simp [codeB, List.isEmpty_iff, ← List.length_eq_zero_iff]
      try omega
  · go_enter Try.func65, Try.ntmps65
    go_wp2_with fail
    refine (rightC_any l [] regs 0 _ _ _ HV.out (Sl.nil _ _)).mono ?_
    rintro e w1 ⟨rfl, hb⟩
    go_wp2
    all_goals
      go_ret
      refine ⟨congrArg (fun b => Ending.returned (.bool b)) ?_, hb⟩
      simp [codeB, *]

end Go.Proofs.Ytmaklniljnbokaa
end

section
namespace Go.Proofs.Ytmaklniljnbokaa
open Go.RowKit
set_option linter.unusedVariables false
set_option linter.unusedSimpArgs false

def NeedIs (n : Needs) (w : World) (e : Ending) (w' : World) : Prop := e = .returned (.tuple #[.agg #[.bool n.reg, .bool n.loc, .bool n.e, .bool n.f, .bool n.ne, .bool n.goal], .bool true]) ∧ Below w.heap.size w w'
def NeedNone (w : World) (e : Ending) (w' : World) : Prop := e = .returned (.tuple #[.agg #[.bool false, .bool false, .bool false, .bool false, .bool false, .bool false], .bool false]) ∧ Below w.heap.size w w'
theorem needs_some (op : Int) (n : Needs) (w : World) (h : needsOf op = some n) : Calls Try.prog 64 #[.int .i64 op] w (NeedIs n w) :=
  (needs_any op w).mono fun e w' ⟨he, hb⟩ => ⟨by rw [he, h]; rfl, hb⟩
theorem needs_none (op : Int) (w : World) (h : needsOf op = none) : Calls Try.prog 64 #[.int .i64 op] w (NeedNone w) :=
  (needs_any op w).mono fun e w' ⟨he, hb⟩ => ⟨by rw [he, h]; rfl, hb⟩

/-- Two variables laid, and what was made behind them: they hold what they held. -/
theorem two_boxes {w w1 : World} {cs ds : Array Value} {E F : TypeId} (hb : Below ((w.alloc (.cells cs E)).alloc (.cells ds F)).heap.size ((w.alloc (.cells cs E)).alloc (.cells ds F)) w1) :
    (∀ k u, cs[k]? = some u → w1.cell? ⟨w.heap.size, k, none⟩ = some u) ∧ (∀ k u, ds[k]? = some u → w1.cell? ⟨w.heap.size + 1, k, none⟩ = some u) ∧ w.heap.size + 2 ≤ w1.heap.size ∧ Below w.heap.size w w1 := by
  have hz := hb.size
  simp only [World.size_alloc] at hz
  have hc := (bcell hb).1
  have h1 := heap_alloc_new w (.cells cs E)
  have h2 := heap_alloc_new (w.alloc (.cells cs E)) (.cells ds F)
  refine ⟨fun k u hu => ?_, fun k u hu => ?_, by omega, ?_⟩
  · rw [hc _ _ (by simp only [World.size_alloc]; omega)]
    simp [hu]
  · rw [hc _ _ (by simp only [World.size_alloc]; omega)]
    simp [hu]
  · refine Below.trans (b := (w.alloc (.cells cs E)).alloc (.cells ds F)) ?_ ?_
    · exact ((Below.refl _ _).alloc (Nat.le_refl _) _).alloc (by simp) _
    · exact hb.mono (by simp only [World.size_alloc]; omega)

theorem past_cell {w1 : World} {o : Obj} {b k : Nat} {u : Value} (h : w1.cell? ⟨b, k, none⟩ = some u) (hb : b < w1.heap.size) : (w1.alloc o).cell? ⟨b, k, none⟩ = some u :=
  (((Below.refl w1.heap.size w1).alloc (Nat.le_refl _) o).cell (p := ⟨b, k, none⟩) hb).trans h
theorem new_cell (w1 : World) (cs : Array Value) (E : TypeId) (k : Nat) (u : Value) (h : cs[k]? = some u) : (w1.alloc (.cells cs E)).cell? ⟨w1.heap.size, k, none⟩ = some u := by simp [h]

set_option maxRecDepth 100000 in
set_option maxHeartbeats 4000000 in
theorem fits_any (op reg loc : Int) (le lf : List OpS) (ne : Bool) (goal : Int) (ve vf : Value) (regs locs many : Int) (w : World) (he : Sl rOp w ve le) (hf : Sl rOp w vf lf) :
    Calls Try.prog 62 #[.agg #[.int .i64 op, .int .i64 reg, .int .i64 loc, ve, vf, .bool ne, .int .i64 goal], .int .i64 regs, .int .i64 locs, .int .i64 many] w (BoolBelow (instrOk regs locs many ⟨op, reg, loc, le, lf, ne, goal⟩) w) := by
  have HE := Lib.hid he; have HF := Lib.hid hf; clear he hf
  obtain ⟨res, hres⟩ : ∃ r, instrOk regs locs many ⟨op, reg, loc, le, lf, ne, goal⟩ = r := ⟨_, rfl⟩
  have HR := Lib.hid hres
  rw [hres]
  clear hres
  cases hn : needsOf op with
  | none =>
    have HN := Lib.hid hn; clear hn
    go_enter Try.func62, Try.ntmps62
    go_wp2_with fail
    refine (needs_none op _ HN.out).mono ?_
    rintro e w1 ⟨rfl, hb⟩
    obtain ⟨_, _, hz, hb2⟩ := two_boxes hb
    have HB := Lib.hid hb2
    clear hb hb2
    go_wp2
    go_ret
    exact ⟨by rw [← HR.out]; simp [instrOk, HN.out], HB.out.alloc (by omega) _⟩
  | some n =>
    obtain ⟨nr, nl, n1, n2, nn, ng⟩ := n
    have HN := Lib.hid hn; clear hn
    by_cases hne : ne = true ∧ nn = false
    · obtain ⟨rfl, rfl⟩ := hne
      go_enter Try.func62, Try.ntmps62
      go_wp2_with fail
      refine (needs_some op _ _ HN.out).mono ?_
      rintro e w1 ⟨rfl, hb⟩
      obtain ⟨hx, _, hz, hb2⟩ := two_boxes hb
      have HB := Lib.hid hb2
      have y5 := hx 5 _ rfl
      have k1 : w.heap.size < w1.heap.size := by omega
      clear hb hb2 hx
      go_wp2
      go_ret
      exact ⟨by rw [← HR.out]; simp [instrOk, HN.out], HB.out.alloc (by omega) _⟩
    · have hcs : (ne = false) ∨ (ne = true ∧ (!nn) = false) := by cases ne <;> cases nn <;> simp_all
      clear hne
      rcases hcs with hne | ⟨hne, hnn⟩
      all_goals
        go_enter Try.func62, Try.ntmps62
        go_wp2_with fail
        refine (needs_some op _ _ HN.out).mono ?_
        rintro e w1 ⟨rfl, hb⟩
        obtain ⟨hx, hy, hz, hb2⟩ := two_boxes hb
        have HB := Lib.hid hb2
        have y1 := hx 1 _ rfl
        have y2 := hx 2 _ rfl
        have y3 := hx 3 _ rfl
        have y4 := hx 4 _ rfl
        have y5 := hx 5 _ rfl
        have y6 := hx 6 _ rfl
        have z0 := hy 0 _ rfl
        have k1 : w.heap.size < w1.heap.size := by omega
        have k2 : w.heap.size + 1 < w1.heap.size := by omega
        clear hb hb2 hx hy
        go_wp2_with fail
        refine (place_any nr reg regs _).mono ?_
        rintro e w2 ⟨rfl, rfl⟩
        cases p1 : placeB nr reg regs
        · go_wp2
          go_ret
          exact ⟨by rw [← HR.out]; simp [instrOk, HN.out, p1], HB.out.alloc (by omega) _⟩
        · have P1 := Lib.hid p1; clear p1
          go_wp2_with fail
          refine (place_any nl loc locs _).mono ?_
          rintro e w2 ⟨rfl, rfl⟩
          cases p2 : placeB nl loc locs
          · go_wp2
            go_ret
            exact ⟨by rw [← HR.out]; simp [instrOk, HN.out, p2], HB.out.alloc (by omega) _⟩
          · have P2 := Lib.hid p2; clear p2
            go_wp2_with fail
            refine (place_any ng goal many _).mono ?_
            rintro e w2 ⟨rfl, rfl⟩
            cases p3 : placeB ng goal many
            · go_wp2
              go_ret
              exact ⟨by rw [← HR.out]; simp [instrOk, HN.out, p3], HB.out.alloc (by omega) _⟩
            · have P3 := Lib.hid p3; clear p3
              go_wp2_with fail
              have hBW : Below w.heap.size w (w1.alloc (.cells #[.bool nr, .bool nl, .bool n1, .bool n2, .bool nn, .bool ng] 113)) := HB.out.alloc (by omega) _
              have q4 := past_cell (o := .cells #[.bool nr, .bool nl, .bool n1, .bool n2, .bool nn, .bool ng] 113) y4 k1
              have q0 := past_cell (o := .cells #[.bool nr, .bool nl, .bool n1, .bool n2, .bool nn, .bool ng] 113) z0 k2
              have q3 := new_cell w1 #[.bool nr, .bool nl, .bool n1, .bool n2, .bool nn, .bool ng] 113 3 _ rfl
              have hWs : w1.heap.size < (w1.alloc (.cells #[.bool nr, .bool nl, .bool n1, .bool n2, .bool nn, .bool ng] 113)).heap.size := by simp
              generalize w1.alloc (.cells #[.bool nr, .bool nl, .bool n1, .bool n2, .bool nn, .bool ng] 113) = W at *
              have HW := Lib.hid hBW
              clear hBW y1 y2 y3 y4 y5 y6 z0
              refine (fits1_any n1 le regs _ _ _ (HE.out.mono mono_op HW.out) q0).mono ?_
              rintro e w2 ⟨rfl, hb⟩
              have r4 := (hb.cell (p := ⟨w.heap.size, 4, none⟩) (by show w.heap.size < _; omega)).trans q4
              have r0 := (hb.cell (p := ⟨w.heap.size + 1, 0, none⟩) (by show w.heap.size + 1 < _; omega)).trans q0
              have r3 := (hb.cell (p := ⟨w1.heap.size, 3, none⟩) hWs).trans q3
              have HX := Lib.hid (HW.out.trans (hb.mono HW.out.size))
              clear hb q4 q0 q3
              cases p4 : codeB n1 le regs
              · go_wp2
                go_ret
                exact ⟨by rw [← HR.out]; simp [instrOk, HN.out, P1.out, P2.out, P3.out, p4, hne], HX.out⟩
              · have P4 := Lib.hid p4; clear p4
                go_wp2_with fail
                refine (fits1_any n2 lf regs _ _ _ (HF.out.mono mono_op HX.out) r0).mono ?_
                rintro e w3 ⟨rfl, hb⟩
                have HY := Lib.hid (HX.out.trans (hb.mono HX.out.size))
                clear hb
                go_wp2
                go_ret
                exact ⟨by rw [← HR.out]; cases nn <;> simp_all [instrOk, HN.out, P1.out, P2.out, P3.out, P4.out], HY.out⟩

end Go.Proofs.Ytmaklniljnbokaa
end

section
namespace Go.Proofs.Ytmaklniljnbokaa
open Go.RowKit
set_option linter.unusedVariables false
set_option linter.unusedSimpArgs false

theorem Sl.cap {α : Type} {r : Rd α} {w : World} {a : Option Addr} {n c : Nat} {l : List α} (h : Sl r w (.slice a n c) l) : n = l.length ∧ l.length ≤ c ∧ c ≤ 9223372036854775807 := by
  obtain ⟨a', c', e, ⟨h1, h2, _⟩, _⟩ := h
  simp only [List.cons.injEq, and_true, Value.slice.injEq] at e
  obtain ⟨rfl, rfl, rfl⟩ := e
  unfold maxLen at h2
  exact ⟨rfl, h1, h2⟩

set_option maxRecDepth 100000 in
set_option maxHeartbeats 4000000 in
theorem row_any (l : List InstrS) (v : Value) (regs locs : Int) (w : World) (hv : Sl rInstr w v l) :
    Calls Try.prog 55 #[v, .int .i64 regs, .int .i64 locs] w (BoolBelow (rowOk l regs locs) w) := by
  have hl := hv.len
  obtain ⟨a, c, rfl, hc⟩ := instrs_view hv
  obtain ⟨_, hcap, hcap2⟩ := hv.cap
  have HC := Lib.hid hc; clear hc hv
  by_cases h0 : l.length = 0
  · have HR := Lib.hid (rowOk_size (l := l) (regs := regs) (locs := locs) (by omega))
    rw [HR.out, h0]
    clear h0
    go_enter Try.func55, Try.ntmps55
    go_wp2
    go_ret
    exact ⟨rfl, Below.refl _ _⟩
  by_cases h1 : 1000 < l.length
  · have HR := Lib.hid (rowOk_size (l := l) (regs := regs) (locs := locs) (by omega))
    rw [HR.out]
    go_enter Try.func55, Try.ntmps55
    go_wp2
    go_ret
    exact ⟨rfl, Below.refl _ _⟩
  obtain ⟨m, hm⟩ : ∃ m, l.length = m + 1 := ⟨l.length - 1, by omega⟩
  have HM := Lib.hid hm
  have hml : m < l.length := by omega
  have hmm : m ≤ 999 := by omega
  have hlast : ∀ h : l.length - 1 < l.length, l[l.length - 1]'h = l[m]'hml := fun _ => by congr 1; omega
  obtain ⟨b, off, ve, vf, rfl, x0, x1, x2, x3, x4, x5, x6, s1, s2, bd⟩ := HC.out m hml
  clear bd
  obtain ⟨x, hx⟩ : ∃ x, l[m]'hml = x := ⟨_, rfl⟩
  rw [hx] at x0 x1 x2 x5 x6 s1 s2
  have HL : Hid (∀ h : l.length - 1 < l.length, l[l.length - 1]'h = x) := fun h => (hlast h).trans hx
  clear hlast hx h0 h1
  rw [hm]
  clear hm
  have S1 := Lib.hid s1; have S2 := Lib.hid s2; clear s1 s2
  go_enter Try.func55, Try.ntmps55
  go_wp2_with fail
  refine (done_any x ve vf _ S1.out S2.out).mono ?_
  rintro e w1 ⟨rfl, hb⟩
  have HB := Lib.hid hb
  clear hb x0 x1 x2 x3 x4 x5 x6
  cases hd : doneOk x
  · have HN := Lib.hid (show rowOk l regs locs = false from rowOk_last (by have := HM.out; omega) (by rw [HL.out (by have := HM.out; omega)]; exact hd))
    clear hd
    go_wp2
    go_ret
    exact ⟨by rw [HN.out]; rfl, HB.out⟩
  · have HD := Lib.hid hd; clear hd
    go_wp2
    go_loopw [31] (fun i wr => ∃ k : Nat, i = .int .i64 k ∧ k ≤ m ∧ (∀ j (h : j < l.length), j < k → instrOk regs locs l.length l[j] = true) ∧ Below w.heap.size w wr) (fun i _ => m - (intOf i).toNat)
    case atStart => exact ⟨0, rfl, by omega, fun j _ h => absurd h (by omega), HB.out⟩
    case round =>
      obtain ⟨k, rfl, hk, hall, hb⟩ := hrel
      have Hall := Lib.hid hall; have HW := Lib.hid hb
      have hz := hb.size
      clear hall hb
      by_cases hlt : k < m
      · obtain ⟨b2, o2, ve, vf, he, y0, y1, y2, y3, y4, y5, y6, s1, s2, _⟩ := HC.out k (by have := HM.out; omega)
        simp only [Option.some.injEq, Addr.mk.injEq, and_true] at he
        obtain ⟨rfl, rfl⟩ := he
        have z0 := cell_later HW.out y0; have z1 := cell_later HW.out y1; have z2 := cell_later HW.out y2; have z3 := cell_later HW.out y3
        have z4 := cell_later HW.out y4; have z5 := cell_later HW.out y5; have z6 := cell_later HW.out y6
        clear y0 y1 y2 y3 y4 y5 y6
        have hkl : k < l.length := by have := HM.out; omega
        obtain ⟨y, hy⟩ : ∃ y, l[k]'hkl = y := ⟨_, rfl⟩
        rw [hy] at z0 z1 z2 z5 z6 s1 s2
        have HY := Lib.hid hy; clear hy
        obtain ⟨op, reg, loc, le, lf, ne, goal⟩ := y
        dsimp only at z0 z1 z2 z5 z6 s1 s2
        obtain ⟨ae, ce, rfl, _⟩ := ops_view s1
        obtain ⟨af, cf, rfl, _⟩ := ops_view s2
        have S3 := Lib.hid (s1.mono mono_op HW.out); have S4 := Lib.hid (s2.mono mono_op HW.out); clear s1 s2
        go_wp2_with fail
        refine (fits_any op reg loc le lf ne goal _ _ regs locs _ _ (S3.out.mono mono_op ((Below.refl _ _).alloc (Nat.le_refl _) _)) (S4.out.mono mono_op ((Below.refl _ _).alloc (Nat.le_refl _) _))).mono ?_
        rintro e w2 ⟨rfl, hb⟩
        have HX := Lib.hid ((HW.out.alloc hz _).trans (hb.mono (by simp only [World.size_alloc]; omega)))
        clear hb
        cases hf : instrOk regs locs ((m : Int) + 1) ⟨op, reg, loc, le, lf, ne, goal⟩
        · have HN := Lib.hid (show rowOk l regs locs = false from rowOk_bad (k := k) (by have := HM.out; omega) (by rw [HY.out, HM.out]; exact hf))
          clear hf z0 z1 z2 z3 z4 z5 z6
          go_wp2
          go_ret
          exact ⟨by rw [HN.out]; rfl, HX.out⟩
        · have HF := Lib.hid hf
          clear hf z0 z1 z2 z3 z4 z5 z6
          go_wp2
          go_roundw
          case rel => exact ⟨k + 1, by go_num, by omega, fun j h2 h3 => by
            rcases Nat.lt_or_ge j k with h | h
            · exact Hall.out j h2 h
            · obtain rfl : j = k := by omega
              rw [HY.out, HM.out]; exact HF.out, HX.out⟩
          case measure => simp [intOf]; omega
      · have HG := Lib.hid (show rowOk l regs locs = true from rowOk_good (by have := HM.out; omega) (by have := HM.out; omega) (by rw [HL.out (by have := HM.out; omega)]; exact HD.out) (fun j hj => Hall.out j (by omega) (by have := HM.out; omega)))
        go_wp2
        go_ret
        exact ⟨by rw [HG.out]; rfl, HW.out⟩

end Go.Proofs.Ytmaklniljnbokaa
end

section
namespace Go.Proofs.Ytmaklniljnbokaa
open Go.RowKit
set_option linter.unusedVariables false
set_option linter.unusedSimpArgs false

/-- A world in which all that was there is as it was. -/
structure Later (w : World) where
  world : World
  below : Below w.heap.size w world

def Later.self (w : World) : Later w := ⟨w, Below.refl _ _⟩
instance (w : World) : Nonempty (Later w) := ⟨Later.self w⟩
theorem Later.cell {w : World} {p : Addr} {v : Value} (h : w.cell? p = some v) : ∀ s : Later w, s.world.cell? p = some v := fun s => cell_later s.below h

theorem wp_region_later {P : Program} {id : Nat} {Q : Exit → Act → World → Prop} {a : Act} {w : World} {l : List Oper} (hm : P.follows .mixedOrders = true) (hB : Region.lexB .any l.toArray = true)
    (h : wpQuiet P l.toArray (fun w' => ∃ s : Later w, w' = s.world) (fun a => ∀ w', (∃ s : Later w, w' = s.world) → Q .normal a w') l a) : (Code.region id l.toArray true).wp P Q a w :=
  wp_region_quiet (C := fun w' => ∃ s : Later w, w' = s.world) hm hB ⟨⟨w.drew, (Below.refl _ _).drew⟩, rfl⟩ (by simpa using h)

theorem Calls.later {P : Program} {f : FuncId} {args : Array Value} {w : World} {s : Later w} {v : Value} {Post : Ending → World → Prop} (h : Calls P f args s.world Post) (hp : ∀ e w', Post e w' → e = .returned v ∧ Below s.world.heap.size s.world w') :
    Calls P f args s.world fun e w'' => e = .returned v ∧ ∃ t : Later w, w'' = t.world :=
  h.mono fun e w'' hpost => ⟨(hp e w'' hpost).1, ⟨w'', s.below.trans ((hp e w'' hpost).2.mono s.below.size)⟩, rfl⟩

end Go.Proofs.Ytmaklniljnbokaa
end

section
namespace Go.Proofs.Ytmaklniljnbokaa
open Go.RowKit
set_option linter.unusedVariables false
set_option linter.unusedSimpArgs false

theorem eq_of_ne {a b : Nat} (h : ((a : Int) != (b : Int)) = false) : a = b := by simp only [bne_eq_false_iff_eq] at h; omega
theorem headOk_no {u : UnitS} (h : headOk u = false) (h1 : 2 ≤ u.mod) (h2 : u.mod ≤ 16) (h3 : u.init.length ≤ 6) (h4 : 1 ≤ u.regs.length) (h5 : u.regs.length ≤ 4) (h6 : u.code.length = u.regs.length) : False := by
  simp only [headOk, decide_eq_false_iff_not] at h
  omega

set_option maxRecDepth 100000 in
set_option maxHeartbeats 4000000 in
theorem lowRight_head (u : UnitS) (v : Value) (w : World) (hv : UnitV w v u) (hh : headOk u = false) :
    Calls Try.prog 51 #[v] w (BoolBelow false w) := by
  obtain ⟨vi, vr, vc, rfl, s1, s2, s3, m1, m2⟩ := hv
  have l1 := s1.len; have l2 := s2.len; have l3 := s3.len
  obtain ⟨a1, c1, rfl, h1⟩ := ints_view s1
  obtain ⟨a2, c2, rfl, h2⟩ := ints_view s2
  obtain ⟨a3, c3, rfl, h3⟩ := slices_view s3
  clear s1 s2 s3 h1 h2 h3
  have HH : Hid (2 ≤ u.mod → u.mod ≤ 16 → u.init.length ≤ 6 → 1 ≤ u.regs.length → u.regs.length ≤ 4 → u.code.length = u.regs.length → False) := headOk_no hh
  clear hh
  obtain ⟨mod, init, regs, code⟩ := u
  dsimp only at *
  generalize init.length = n1 at *
  generalize regs.length = n2 at *
  generalize code.length = n3 at *
  go_enter Try.func51, Try.ntmps51
  go_wp2
  all_goals
    first
    | (go_ret; exact ⟨rfl, (Below.refl _ _).alloc (Nat.le_refl _) _⟩)
    | (exfalso; exact HH.out (by omega) (by omega) (by omega) (by omega) (by omega) (by first | omega | exact eq_of_ne (by first | assumption | exact (by assumption : _ ∧ ((n3 : Int) != (n2 : Int)) = false).2)))

set_option maxRecDepth 100000 in
set_option maxHeartbeats 8000000 in
theorem lowRight_main (u : UnitS) (v : Value) (w : World) (hv : UnitV w v u) (hh : headOk u = true) :
    Calls Try.prog 51 #[v] w (BoolBelow (rightU u) w) := by
  obtain ⟨vi, vr, vc, rfl, s1, s2, s3, m1, m2⟩ := hv
  have l1 := s1.len; have l2 := s2.len; have l3 := s3.len
  obtain ⟨a1, c1, rfl, h1⟩ := ints_view s1
  obtain ⟨a2, c2, rfl, h2⟩ := ints_view s2
  obtain ⟨a3, c3, rfl, h3⟩ := slices_view s3
  have H1 := Lib.hid h1; have H2 := Lib.hid h2; have H3 := Lib.hid h3
  clear s1 s2 s3 h1 h2 h3
  have HH := Lib.hid hh
  simp only [headOk, decide_eq_true_eq] at hh
  obtain ⟨g1, g2, g3, g4, g5, g6⟩ := hh
  have HU := Lib.hid (Eq.refl (rightU u))
  obtain ⟨res, hres⟩ : ∃ r, rightU u = r := ⟨_, rfl⟩
  have HR := Lib.hid hres
  rw [hres]
  clear hres
  obtain ⟨mod, init, regs, code⟩ := u
  dsimp only at *
  obtain ⟨n1, hn1⟩ : ∃ n, init.length = n := ⟨_, rfl⟩
  obtain ⟨n2, hn2⟩ : ∃ n, regs.length = n := ⟨_, rfl⟩
  rw [hn1] at g3 ⊢
  rw [hn2] at g4 g5 g6 ⊢
  rw [g6]
  have N1 := Lib.hid hn1; have N2 := Lib.hid hn2; have N3 := Lib.hid g6
  clear hn1 hn2 g6 l1 l2 l3
  have d0 : ((n2 : Int) == 0) = false := ib_no (by omega)
  go_enter Try.func51, Try.ntmps51
  go_wp2
  go_loop [45] (fun i => ∃ k : Nat, i = .int .i64 k ∧ k ≤ n1 ∧ ∀ j (h : j < init.length), j < k → inB init[j] mod = true) (fun i => n1 - (intOf i).toNat)
  case atStart => exact ⟨0, rfl, by omega, fun j _ h => absurd h (by omega)⟩
  case round =>
    obtain ⟨k, rfl, hk, hall⟩ := hrel
    have Hall := Lib.hid hall; clear hall
    by_cases hlt : k < n1
    · have hki : k < init.length := by have := N1.out; omega
      obtain ⟨b, o, rfl, x1, _, _⟩ := H1.out k hki
      obtain ⟨x, hx⟩ : ∃ x, init[k]'hki = x := ⟨_, rfl⟩
      rw [hx] at x1
      have HX := Lib.hid hx; clear hx
      have hbl : b < w.heap.size := World.block_lt_of_cell? _ _ x1
      have hbn : b ≠ w.heap.size := by omega
      by_cases c1 : x < 0
      · have HN := Lib.hid (show res = false by rw [← HR.out]; exact rightU_init (allIn_bad hki (by show inB (init[k]'hki) mod = false; rw [HX.out]; exact in_false (.inl c1))))
        go_wp2
        go_ret
        exact ⟨by rw [HN.out]; rfl, (Below.refl _ _).alloc (Nat.le_refl _) _⟩
      · by_cases c2 : mod ≤ x
        · have HN := Lib.hid (show res = false by rw [← HR.out]; exact rightU_init (allIn_bad hki (by show inB (init[k]'hki) mod = false; rw [HX.out]; exact in_false (.inr c2))))
          go_wp2
          go_ret
          exact ⟨by rw [HN.out]; rfl, (Below.refl _ _).alloc (Nat.le_refl _) _⟩
        · go_wp2
          go_round
          case rel => exact ⟨k + 1, by go_num, by omega, fun j h2 h3 => by
            rcases Nat.lt_or_ge j k with h | h
            · exact Hall.out j h2 h
            · obtain rfl : j = k := by omega
              rw [HX.out]; exact in_true (by omega)⟩
          case measure => simp [intOf]; omega
    · have HI := Lib.hid (show allIn init mod = true from allIn_good fun j hj => Hall.out j hj (by have := N1.out; omega))
      clear Hall
      go_wp2_with fail
      have hBW : Below w.heap.size w (w.alloc (.cells #[.int .i64 mod, .slice a1 n1 c1, .slice a2 n2 c2, .slice a3 n2 c3] 25)) := (Below.refl _ _).alloc (Nat.le_refl _) _
      have q1 := new_cell w #[.int .i64 mod, .slice a1 n1 c1, .slice a2 n2 c2, .slice a3 n2 c3] 25 1 _ rfl
      have q2 := new_cell w #[.int .i64 mod, .slice a1 n1 c1, .slice a2 n2 c2, .slice a3 n2 c3] 25 2 _ rfl
      have q3 := new_cell w #[.int .i64 mod, .slice a1 n1 c1, .slice a2 n2 c2, .slice a3 n2 c3] 25 3 _ rfl
      have hWs : w.heap.size < (w.alloc (.cells #[.int .i64 mod, .slice a1 n1 c1, .slice a2 n2 c2, .slice a3 n2 c3] 25)).heap.size := by simp
      generalize w.alloc (.cells #[.int .i64 mod, .slice a1 n1 c1, .slice a2 n2 c2, .slice a3 n2 c3] 25) = W at *
      have HW := Lib.hid hBW
      clear hBW
      go_loopw [61] (fun i wr => ∃ k : Nat, i = .int .i64 k ∧ k ≤ n2 ∧ (∀ j, j < regs.length → j < k → threadOk ⟨mod, init, regs, code⟩ j = true) ∧ Below W.heap.size W wr) (fun i _ => n2 - (intOf i).toNat)
      case atStart => exact ⟨0, rfl, by omega, fun j _ h => absurd h (by omega), Below.refl _ _⟩
      case round =>
        obtain ⟨k, rfl, hk, hall, hb⟩ := hrel
        have Hall := Lib.hid hall; have HB := Lib.hid hb
        have hz := hb.size
        clear hall hb
        by_cases hlt : k < n2
        · have hkr : k < regs.length := by have := N2.out; omega
          have hkc : k < code.length := by have := N3.out; omega
          obtain ⟨b, o, rfl, x1, _, _⟩ := H2.out k hkr
          obtain ⟨b3, o3, vr, rfl, x3, sr⟩ := H3.out k hkc
          obtain ⟨x, hx⟩ : ∃ x, regs[k]'hkr = x := ⟨_, rfl⟩
          obtain ⟨row, hrow⟩ : ∃ r, code[k]'hkc = r := ⟨_, rfl⟩
          rw [hx] at x1
          rw [hrow] at sr
          have HT := Lib.hid (show threadOk ⟨mod, init, regs, code⟩ k = (decide (0 ≤ x ∧ x ≤ 6) && rowOk row x n1) by rw [threadOk_of (u := ⟨mod, init, regs, code⟩) hkr hkc, hx, hrow, N1.out])
          clear hx hrow
          have y1 := cell_later HB.out (cell_later HW.out x1)
          have y3 := cell_later HB.out (cell_later HW.out x3)
          have z1 := cell_later HB.out q2
          have z1' := cell_later HB.out q1
          have z3 := cell_later HB.out q3
          have SR := Lib.hid ((sr.mono mono_instr HW.out).mono mono_instr HB.out)
          clear x1 x3 sr
          have Hbad : Hid (threadOk ⟨mod, init, regs, code⟩ k = false → res = false) := fun h => by rw [← HR.out]; exact rightU_bad (u := ⟨mod, init, regs, code⟩) hkr h
          by_cases c1 : x < 0
          · have HN := Lib.hid (Hbad.out (by rw [HT.out, decide_eq_false (by omega), Bool.false_and]))
            go_wp2_with fail
            refine wp_region_later (by kernel_rfl) (by kernel_rfl) ?_
            repeat (go_big_quiet_step (fail))
            refine wpQuiet_nil ?_
            rintro w2 ⟨⟨w3, hb3⟩, rfl⟩
            have HB3 := Lib.hid (HB.out.trans (hb3.mono hz)); clear hb3
            go_wp2_with fail
            go_ret
            exact ⟨by rw [HN.out]; rfl, HW.out.trans (HB3.out.mono (by omega))⟩
          · have d1 : decide (x < 0) = false := decide_eq_false c1
            by_cases c2 : 6 < x
            · have HN := Lib.hid (Hbad.out (by rw [HT.out, decide_eq_false (by omega), Bool.false_and]))
              go_wp2_with fail
              refine wp_region_later (by kernel_rfl) (by kernel_rfl) ?_
              repeat (go_big_quiet_step (fail))
              refine wpQuiet_nil ?_
              rintro w2 ⟨⟨w3, hb3⟩, rfl⟩
              have HB3 := Lib.hid (HB.out.trans (hb3.mono hz)); clear hb3
              go_wp2_with fail
              go_ret
              exact ⟨by rw [HN.out]; rfl, HW.out.trans (HB3.out.mono (by omega))⟩
            · have d2 : decide (6 < x) = false := decide_eq_false c2
              go_wp2_with fail
              have e1 := Later.cell z1'
              have e3 := Later.cell z3
              have e4 := Later.cell y3
              refine wp_region_later (by kernel_rfl) (by kernel_rfl) ?_
              repeat (go_big_quiet_step ((go_at_call 55; exact Calls.later (row_any row vr x n1 _ (SR.out.mono mono_instr (Later.below _))) (fun _ _ h => h))))
              refine wpQuiet_nil ?_
              rintro w2 ⟨⟨w3, hb3⟩, rfl⟩
              clear e1 e3 e4
              have HB3 := Lib.hid (HB.out.trans (hb3.mono hz)); clear hb3
              cases hr : rowOk row x n1
              · have HN := Lib.hid (Hbad.out (by rw [HT.out, hr, Bool.and_false]))
                clear hr
                go_wp2_with fail
                go_ret
                exact ⟨by rw [HN.out]; rfl, HW.out.trans (HB3.out.mono (by omega))⟩
              · have HO := Lib.hid (show threadOk ⟨mod, init, regs, code⟩ k = true by rw [HT.out, hr, decide_eq_true (by omega)]; rfl)
                clear hr
                go_wp2_with fail
                go_roundw
                case rel => exact ⟨k + 1, by go_num, by omega, fun j h2 h3 => by
                  rcases Nat.lt_or_ge j k with h | h
                  · exact Hall.out j h2 h
                  · obtain rfl : j = k := by omega
                    exact HO.out, HB3.out⟩
                case measure => simp [intOf]; omega
        · have HG := Lib.hid (show res = true by rw [← HR.out]; exact rightU_good (u := ⟨mod, init, regs, code⟩) HH.out HI.out (fun j hj => Hall.out j hj (by have := N2.out; dsimp only at hj; omega)))
          go_wp2
          go_ret
          exact ⟨by rw [HG.out]; rfl, HW.out.trans (HB.out.mono (by omega))⟩

theorem lowRight_any (u : UnitS) (v : Value) (w : World) (hv : UnitV w v u) : Calls Try.prog 51 #[v] w (BoolBelow (rightU u) w) := by
  cases hh : headOk u
  · rw [rightU_head hh]; exact lowRight_head u v w hv hh
  · exact lowRight_main u v w hv hh

end Go.Proofs.Ytmaklniljnbokaa
end

section
namespace Go.Proofs.Ytmaklniljnbokaa
open Go.RowKit
set_option linter.unusedVariables false
set_option linter.unusedSimpArgs false

set_option maxHeartbeats 400000 in
theorem in07_any (a b : Int) (w : World) : Calls Try.prog 59 #[.int .i64 a, .int .i64 b] w fun e w' => e = .returned (.bool (inB a b)) ∧ w = w' := by
  go_enter Try.func59, Try.ntmps59
  go_wp2
  all_goals
    go_ret
    refine ⟨congrArg (fun b => Ending.returned (.bool b)) ?_, rfl⟩
    rw [Bool.eq_iff_iff]
    simp [inB]
    try omega

def hasB (s : ByteArray) (c : Int) : Bool := s.data.toList.any fun b => (b.toNat : Int) == c
theorem hasB_yes {s : ByteArray} {c : Int} {k : Nat} (hk : k < s.size) (h : (s[k].toNat : Int) = c) : hasB s c = true := by
  simp only [hasB, List.any_eq_true]
  exact ⟨s[k], by rw [Array.mem_toList_iff]; exact Array.getElem_mem hk, by simpa using h⟩
theorem hasB_no {s : ByteArray} {c : Int} (h : ∀ k (hk : k < s.size), (s[k].toNat : Int) ≠ c) : hasB s c = false := by
  rw [Bool.eq_false_iff]
  intro e
  simp only [hasB, List.any_eq_true] at e
  obtain ⟨x, hx, hc⟩ := e
  rw [Array.mem_toList_iff] at hx
  obtain ⟨k, hk, rfl⟩ := Array.getElem_of_mem hx
  exact h k hk (by rw [beq_iff_eq] at hc; exact hc)

set_option maxHeartbeats 1000000 in
theorem has_any (s : ByteArray) (c : Int) (w : World) (hs : s.size ≤ 1000) :
    Calls Try.prog 58 #[.string s, .int .u8 c] w fun e w' => e = .returned (.bool (hasB s c)) ∧ w = w' := by
  go_enter Try.func58, Try.ntmps58
  go_wp2
  go_loop [5] (fun i => ∃ k : Nat, i = .int .i64 k ∧ k ≤ s.size ∧ ∀ j (h : j < s.size), j < k → (s[j].toNat : Int) ≠ c) (fun i => s.size - (intOf i).toNat)
  case atStart => exact ⟨0, rfl, by omega, fun j _ h => absurd h (by omega)⟩
  case round =>
    obtain ⟨k, rfl, hk, hall⟩ := hrel
    have Hall := Lib.hid hall; clear hall
    by_cases hlt : k < s.size
    · by_cases h1 : (s[k].toNat : Int) = c
      · have HT := Lib.hid (hasB_yes hlt h1)
        have d1 : ((s[k].toNat : Int) == c) = true := by simpa using h1
        clear h1
        go_wp2
        go_ret
        exact ⟨by rw [HT.out]; rfl, rfl⟩
      · have H1 := Lib.hid h1
        have d1 : ((s[k].toNat : Int) == c) = false := by simpa using h1
        clear h1
        go_wp2
        go_round
        case rel => exact ⟨k + 1, by go_num, by omega, fun j h2 h3 => by
          rcases Nat.lt_or_ge j k with h | h
          · exact Hall.out j h2 h
          · obtain rfl : j = k := by omega
            exact H1.out⟩
        case measure => simp [intOf]; omega
    · have HF := Lib.hid (hasB_no (s := s) (c := c) fun j hj => Hall.out j hj (by omega))
      go_wp2
      go_ret
      exact ⟨by rw [HF.out]; rfl, rfl⟩

theorem has_lit (s : ByteArray) (c : Int) (b : Bool) (w : World) (hb : hasB s c = b) (hs : s.size ≤ 1000) : Calls Try.prog 58 #[.string s, .int .u8 c] w fun e w' => e = .returned (.bool b) ∧ w = w' := by
  rw [← hb]; exact has_any s c w hs

theorem and_no_e {a b c d e f : Bool} (h : e = false) : (a && b && c && d && e && f) = false := by rw [h]; simp
theorem and_no_f {a b c d e f : Bool} (h : f = false) : (a && b && c && d && e && f) = false := by rw [h]; simp
theorem codeB_no {l : List OpS} {regs : Int} {n : Nat} (h : l.length = n) (hn : 0 < n) : codeB false l regs = false := by
  cases l with
  | nil => simp at h; omega
  | cons _ _ => rfl
theorem codeB_nil {l : List OpS} {regs : Int} (h : l.length = 0) : codeB false l regs = true := by
  rw [List.length_eq_zero_iff.1 h]; rfl

def PartsIs (s : ByteArray) (b : Bool) (w : World) (e : Ending) (w' : World) : Prop := e = .returned (.tuple #[.string s, .bool b]) ∧ w = w'

set_option maxHeartbeats 400000 in
theorem parts_2 (w : World) : Calls Try.prog 57 #[.int .i64 2] w (PartsIs ⟨#[114, 101]⟩ true w) := by
  go_enter Try.func57, Try.ntmps57
  go_wp2
  go_ret2
  exact ⟨rfl, rfl⟩

set_option maxHeartbeats 400000 in
theorem parts_3 (w : World) : Calls Try.prog 57 #[.int .i64 3] w (PartsIs ⟨#[114, 108]⟩ true w) := by
  go_enter Try.func57, Try.ntmps57
  go_wp2
  go_ret2
  exact ⟨rfl, rfl⟩

set_option maxHeartbeats 400000 in
theorem parts_4 (w : World) : Calls Try.prog 57 #[.int .i64 4] w (PartsIs ⟨#[108, 101]⟩ true w) := by
  go_enter Try.func57, Try.ntmps57
  go_wp2
  go_ret2
  exact ⟨rfl, rfl⟩

set_option maxHeartbeats 400000 in
theorem parts_5 (w : World) : Calls Try.prog 57 #[.int .i64 5] w (PartsIs ⟨#[114, 108, 101, 102]⟩ true w) := by
  go_enter Try.func57, Try.ntmps57
  go_wp2
  go_ret2
  exact ⟨rfl, rfl⟩

set_option maxHeartbeats 400000 in
theorem parts_6 (w : World) : Calls Try.prog 57 #[.int .i64 6] w (PartsIs ⟨#[114, 108, 101]⟩ true w) := by
  go_enter Try.func57, Try.ntmps57
  go_wp2
  go_ret2
  exact ⟨rfl, rfl⟩

set_option maxHeartbeats 400000 in
theorem parts_7 (w : World) : Calls Try.prog 57 #[.int .i64 7] w (PartsIs ⟨#[114, 108, 101]⟩ true w) := by
  go_enter Try.func57, Try.ntmps57
  go_wp2
  go_ret2
  exact ⟨rfl, rfl⟩

set_option maxHeartbeats 400000 in
theorem parts_8 (w : World) : Calls Try.prog 57 #[.int .i64 8] w (PartsIs ⟨#[]⟩ true w) := by
  go_enter Try.func57, Try.ntmps57
  go_wp2
  go_ret2
  exact ⟨rfl, rfl⟩

set_option maxHeartbeats 400000 in
theorem parts_9 (w : World) : Calls Try.prog 57 #[.int .i64 9] w (PartsIs ⟨#[108, 101, 110]⟩ true w) := by
  go_enter Try.func57, Try.ntmps57
  go_wp2
  go_ret2
  exact ⟨rfl, rfl⟩

set_option maxHeartbeats 400000 in
theorem parts_20 (w : World) : Calls Try.prog 57 #[.int .i64 20] w (PartsIs ⟨#[116]⟩ true w) := by
  go_enter Try.func57, Try.ntmps57
  go_wp2
  go_ret2
  exact ⟨rfl, rfl⟩

set_option maxHeartbeats 400000 in
theorem parts_21 (w : World) : Calls Try.prog 57 #[.int .i64 21] w (PartsIs ⟨#[101, 116]⟩ true w) := by
  go_enter Try.func57, Try.ntmps57
  go_wp2
  go_ret2
  exact ⟨rfl, rfl⟩

theorem needs_no {op : Int} (h : needsOf op = none) : (op == 2) = false ∧ (op == 3) = false ∧ (op == 4) = false ∧ (op == 5) = false ∧ (op == 6) = false ∧ (op == 7) = false ∧ (op == 8) = false ∧ (op == 9) = false ∧ (op == 20) = false ∧ (op == 21) = false := by
  refine ⟨?_, ?_, ?_, ?_, ?_, ?_, ?_, ?_, ?_, ?_⟩
  all_goals
    apply ib_no
    rintro rfl
    simp [needsOf] at h

set_option maxHeartbeats 400000 in
theorem parts_none (op : Int) (w : World) (h : needsOf op = none) : Calls Try.prog 57 #[.int .i64 op] w (PartsIs ⟨#[]⟩ false w) := by
  obtain ⟨d2, d3, d4, d5, d6, d7, d8, d9, d20, d21⟩ := needs_no h
  clear h
  go_enter Try.func57, Try.ntmps57
  go_wp2
  go_ret2
  exact ⟨rfl, rfl⟩

set_option maxHeartbeats 400000 in
theorem done07_any (x : InstrS) (ve vf : Value) (w : World) (he : Sl rOp w ve x.e) (hf : Sl rOp w vf x.f) :
    Calls Try.prog 53 #[.agg #[.int .i64 x.op, .int .i64 x.reg, .int .i64 x.loc, ve, vf, .bool x.ne, .int .i64 x.goal]] w (BoolBelow (doneOk x) w) := by
  have hl1 := he.len
  have hl2 := hf.len
  obtain ⟨a, c, rfl, h1⟩ := ops_view he
  obtain ⟨a2, c2, rfl, h2⟩ := ops_view hf
  clear he hf h1 h2
  obtain ⟨op, reg, loc, le, lf, ne, goal⟩ := x
  cases ne
  all_goals
    go_enter Try.func53, Try.ntmps53
    go_wp2
    all_goals
      go_ret
      refine ⟨congrArg (fun b => Ending.returned (.bool b)) ?_, (Below.refl _ _).alloc (Nat.le_refl _) _⟩
      rw [Bool.eq_iff_iff]
      simp [doneOk, List.isEmpty_iff, ← List.length_eq_zero_iff]
      try first | omega | (intros; simp only [Go.RowKit.wrap64]; omega) | (intros; simp_all [List.length_eq_zero_iff])

end Go.Proofs.Ytmaklniljnbokaa
end

section
namespace Go.Proofs.Ytmaklniljnbokaa
open Go.RowKit
set_option linter.unusedVariables false
set_option linter.unusedSimpArgs false

set_option maxRecDepth 100000 in
set_option maxHeartbeats 4000000 in
theorem one07_2 (reg loc : Int) (le lf : List OpS) (ne : Bool) (goal : Int) (ve vf : Value) (regs locs many : Int) (w : World) (he : Sl rOp w ve le) (hf : Sl rOp w vf lf) :
    Calls Try.prog 54 #[.agg #[.int .i64 2, .int .i64 reg, .int .i64 loc, ve, vf, .bool ne, .int .i64 goal], .int .i64 regs, .int .i64 locs, .int .i64 many] w (BoolBelow (instrOk regs locs many ⟨2, reg, loc, le, lf, ne, goal⟩) w) := by
  have hl1 := he.len
  have hl2 := hf.len
  have HE := Lib.hid he; have HF := Lib.hid hf
  obtain ⟨ae, ce, rfl, h1⟩ := ops_view he
  obtain ⟨af, cf, rfl, h2⟩ := ops_view hf
  clear he hf h1 h2
  obtain ⟨n1, hn1⟩ : ∃ n, le.length = n := ⟨_, rfl⟩
  obtain ⟨n2, hn2⟩ : ∃ n, lf.length = n := ⟨_, rfl⟩
  rw [hn1] at hl1 HE ⊢
  rw [hn2] at hl2 HF ⊢
  have N1 := Lib.hid hn1; have N2 := Lib.hid hn2; clear hn1 hn2
  obtain ⟨res, hres⟩ : ∃ r, instrOk regs locs many ⟨2, reg, loc, le, lf, ne, goal⟩ = r := ⟨_, rfl⟩
  have HR : Hid (((!ne || false) && placeB true reg regs && placeB false loc locs && placeB false goal many && codeB true le regs && codeB false lf regs) = res) := hres
  rw [hres]
  clear hres
  have hB0 := Lib.hid (show Below w.heap.size w (w.alloc (.cells #[.int .i64 2, .int .i64 reg, .int .i64 loc, .slice ae n1 ce, .slice af n2 cf, .bool ne, .int .i64 goal] 60)) from (Below.refl _ _).alloc (Nat.le_refl _) _)
  cases pr : placeB true reg regs
  · have HN := Lib.hid (show res = false by rw [← HR.out, pr]; simp)
    have qr : inB reg regs = false := pr
    clear pr
    go_enter Try.func54, Try.ntmps54
    go_wp2_with (first
        | (go_at_call 57; refine (parts_2 _).mono ?_; rintro e w' ⟨rfl, rfl⟩)
        | (go_at_call 58; refine (has_lit _ _ true _ rfl (by decide)).mono ?_; rintro e w' ⟨rfl, rfl⟩)
        | (go_at_call 58; refine (has_lit _ _ false _ rfl (by decide)).mono ?_; rintro e w' ⟨rfl, rfl⟩)
        | (go_at_call 59; refine (in07_any _ _ _).mono ?_; rintro e w' ⟨rfl, rfl⟩))
    go_ret
    exact ⟨by rw [HN.out]; rfl, hB0.out⟩
  · have Pr := Lib.hid pr
    have qr : inB reg regs = true := pr
    clear pr
    cases pl : placeB false loc locs
    · have HN := Lib.hid (show res = false by rw [← HR.out, pl]; simp)
      have ql : (loc == 0) = false := by simpa [placeB] using pl
      have ql2 : (loc != 0) = true := by simpa [placeB] using pl
      clear pl
      go_enter Try.func54, Try.ntmps54
      go_wp2_with (first
          | (go_at_call 57; refine (parts_2 _).mono ?_; rintro e w' ⟨rfl, rfl⟩)
          | (go_at_call 58; refine (has_lit _ _ true _ rfl (by decide)).mono ?_; rintro e w' ⟨rfl, rfl⟩)
          | (go_at_call 58; refine (has_lit _ _ false _ rfl (by decide)).mono ?_; rintro e w' ⟨rfl, rfl⟩)
          | (go_at_call 59; refine (in07_any _ _ _).mono ?_; rintro e w' ⟨rfl, rfl⟩))
      go_ret
      exact ⟨by rw [HN.out]; rfl, hB0.out⟩
    · have Pl := Lib.hid pl
      have ql : (loc == 0) = true := by simpa [placeB] using pl
      have ql2 : (loc != 0) = false := by simpa [placeB] using pl
      clear pl
      cases pt : placeB false goal many
      · have HN := Lib.hid (show res = false by rw [← HR.out, pt]; simp)
        have qt : (goal == 0) = false := by simpa [placeB] using pt
        have qt2 : (goal != 0) = true := by simpa [placeB] using pt
        clear pt
        go_enter Try.func54, Try.ntmps54
        go_wp2_with (first
            | (go_at_call 57; refine (parts_2 _).mono ?_; rintro e w' ⟨rfl, rfl⟩)
            | (go_at_call 58; refine (has_lit _ _ true _ rfl (by decide)).mono ?_; rintro e w' ⟨rfl, rfl⟩)
            | (go_at_call 58; refine (has_lit _ _ false _ rfl (by decide)).mono ?_; rintro e w' ⟨rfl, rfl⟩)
            | (go_at_call 59; refine (in07_any _ _ _).mono ?_; rintro e w' ⟨rfl, rfl⟩))
        go_ret
        exact ⟨by rw [HN.out]; rfl, hB0.out⟩
      · have Pt := Lib.hid pt
        have qt : (goal == 0) = true := by simpa [placeB] using pt
        have qt2 : (goal != 0) = false := by simpa [placeB] using pt
        clear pt
        go_enter Try.func54, Try.ntmps54
        go_wp2_with (first
            | (go_at_call 57; refine (parts_2 _).mono ?_; rintro e w' ⟨rfl, rfl⟩)
            | (go_at_call 58; refine (has_lit _ _ true _ rfl (by decide)).mono ?_; rintro e w' ⟨rfl, rfl⟩)
            | (go_at_call 58; refine (has_lit _ _ false _ rfl (by decide)).mono ?_; rintro e w' ⟨rfl, rfl⟩)
            | (go_at_call 59; refine (in07_any _ _ _).mono ?_; rintro e w' ⟨rfl, rfl⟩))
        have c4 := new_cell w #[.int .i64 2, .int .i64 reg, .int .i64 loc, .slice ae n1 ce, .slice af n2 cf, .bool ne, .int .i64 goal] 60 4 _ rfl
        have c5 := new_cell w #[.int .i64 2, .int .i64 reg, .int .i64 loc, .slice ae n1 ce, .slice af n2 cf, .bool ne, .int .i64 goal] 60 5 _ rfl
        have hWs : w.heap.size < (w.alloc (.cells #[.int .i64 2, .int .i64 reg, .int .i64 loc, .slice ae n1 ce, .slice af n2 cf, .bool ne, .int .i64 goal] 60)).heap.size := by simp
        have HW := hB0
        clear hB0
        generalize w.alloc (.cells #[.int .i64 2, .int .i64 reg, .int .i64 loc, .slice ae n1 ce, .slice af n2 cf, .bool ne, .int .i64 goal] 60) = W at *
        refine (rightC06_any le [] regs 0 _ _ _ (HE.out.mono mono_op HW.out) (Sl.nil _ _)).mono ?_
        rintro e w2 ⟨rfl, hb⟩
        have r4 := cell_later hb c4
        have r5 := cell_later hb c5
        have HX := Lib.hid (HW.out.trans (hb.mono HW.out.size))
        have hW2 := hb.size
        clear hb c4 c5
        cases pe : rightC le [] regs 0
        · have HN := Lib.hid (show res = false from HR.out.symm.trans (and_no_e (e := codeB true le regs) pe))
          clear pe
          go_wp2_with (first
              | (go_at_call 57; refine (parts_2 _).mono ?_; rintro e w' ⟨rfl, rfl⟩)
              | (go_at_call 58; refine (has_lit _ _ true _ rfl (by decide)).mono ?_; rintro e w' ⟨rfl, rfl⟩)
              | (go_at_call 58; refine (has_lit _ _ false _ rfl (by decide)).mono ?_; rintro e w' ⟨rfl, rfl⟩)
              | (go_at_call 59; refine (in07_any _ _ _).mono ?_; rintro e w' ⟨rfl, rfl⟩))
          go_ret
          exact ⟨by rw [HN.out]; rfl, HX.out⟩
        · have PE : Hid (codeB true le regs = true) := pe
          clear pe
          by_cases pf : n2 = 0
          · have PF := Lib.hid (show codeB false lf regs = true from codeB_nil (N2.out.trans pf))
            subst pf
            cases ne
            all_goals
              go_wp2_with (first
                  | (go_at_call 57; refine (parts_2 _).mono ?_; rintro e w' ⟨rfl, rfl⟩)
                  | (go_at_call 58; refine (has_lit _ _ true _ rfl (by decide)).mono ?_; rintro e w' ⟨rfl, rfl⟩)
                  | (go_at_call 58; refine (has_lit _ _ false _ rfl (by decide)).mono ?_; rintro e w' ⟨rfl, rfl⟩)
                  | (go_at_call 59; refine (in07_any _ _ _).mono ?_; rintro e w' ⟨rfl, rfl⟩))
              go_ret
              exact ⟨by rw [← HR.out, Pr.out, Pl.out, Pt.out, PE.out, PF.out]; rfl, HX.out⟩
          · have HN := Lib.hid (show res = false from HR.out.symm.trans (and_no_f (codeB_no N2.out (by omega))))
            have g2 : 0 < n2 := by omega
            go_wp2_with (first
                | (go_at_call 57; refine (parts_2 _).mono ?_; rintro e w' ⟨rfl, rfl⟩)
                | (go_at_call 58; refine (has_lit _ _ true _ rfl (by decide)).mono ?_; rintro e w' ⟨rfl, rfl⟩)
                | (go_at_call 58; refine (has_lit _ _ false _ rfl (by decide)).mono ?_; rintro e w' ⟨rfl, rfl⟩)
                | (go_at_call 59; refine (in07_any _ _ _).mono ?_; rintro e w' ⟨rfl, rfl⟩))
            go_ret
            exact ⟨by rw [HN.out]; rfl, HX.out⟩

set_option maxRecDepth 100000 in
set_option maxHeartbeats 4000000 in
theorem one07_3 (reg loc : Int) (le lf : List OpS) (ne : Bool) (goal : Int) (ve vf : Value) (regs locs many : Int) (w : World) (he : Sl rOp w ve le) (hf : Sl rOp w vf lf) :
    Calls Try.prog 54 #[.agg #[.int .i64 3, .int .i64 reg, .int .i64 loc, ve, vf, .bool ne, .int .i64 goal], .int .i64 regs, .int .i64 locs, .int .i64 many] w (BoolBelow (instrOk regs locs many ⟨3, reg, loc, le, lf, ne, goal⟩) w) := by
  have hl1 := he.len
  have hl2 := hf.len
  have HE := Lib.hid he; have HF := Lib.hid hf
  obtain ⟨ae, ce, rfl, h1⟩ := ops_view he
  obtain ⟨af, cf, rfl, h2⟩ := ops_view hf
  clear he hf h1 h2
  obtain ⟨n1, hn1⟩ : ∃ n, le.length = n := ⟨_, rfl⟩
  obtain ⟨n2, hn2⟩ : ∃ n, lf.length = n := ⟨_, rfl⟩
  rw [hn1] at hl1 HE ⊢
  rw [hn2] at hl2 HF ⊢
  have N1 := Lib.hid hn1; have N2 := Lib.hid hn2; clear hn1 hn2
  obtain ⟨res, hres⟩ : ∃ r, instrOk regs locs many ⟨3, reg, loc, le, lf, ne, goal⟩ = r := ⟨_, rfl⟩
  have HR : Hid (((!ne || false) && placeB true reg regs && placeB true loc locs && placeB false goal many && codeB false le regs && codeB false lf regs) = res) := hres
  rw [hres]
  clear hres
  have hB0 := Lib.hid (show Below w.heap.size w (w.alloc (.cells #[.int .i64 3, .int .i64 reg, .int .i64 loc, .slice ae n1 ce, .slice af n2 cf, .bool ne, .int .i64 goal] 60)) from (Below.refl _ _).alloc (Nat.le_refl _) _)
  cases pr : placeB true reg regs
  · have HN := Lib.hid (show res = false by rw [← HR.out, pr]; simp)
    have qr : inB reg regs = false := pr
    clear pr
    go_enter Try.func54, Try.ntmps54
    go_wp2_with (first
        | (go_at_call 57; refine (parts_3 _).mono ?_; rintro e w' ⟨rfl, rfl⟩)
        | (go_at_call 58; refine (has_lit _ _ true _ rfl (by decide)).mono ?_; rintro e w' ⟨rfl, rfl⟩)
        | (go_at_call 58; refine (has_lit _ _ false _ rfl (by decide)).mono ?_; rintro e w' ⟨rfl, rfl⟩)
        | (go_at_call 59; refine (in07_any _ _ _).mono ?_; rintro e w' ⟨rfl, rfl⟩))
    go_ret
    exact ⟨by rw [HN.out]; rfl, hB0.out⟩
  · have Pr := Lib.hid pr
    have qr : inB reg regs = true := pr
    clear pr
    cases pl : placeB true loc locs
    · have HN := Lib.hid (show res = false by rw [← HR.out, pl]; simp)
      have ql : inB loc locs = false := pl
      clear pl
      go_enter Try.func54, Try.ntmps54
      go_wp2_with (first
          | (go_at_call 57; refine (parts_3 _).mono ?_; rintro e w' ⟨rfl, rfl⟩)
          | (go_at_call 58; refine (has_lit _ _ true _ rfl (by decide)).mono ?_; rintro e w' ⟨rfl, rfl⟩)
          | (go_at_call 58; refine (has_lit _ _ false _ rfl (by decide)).mono ?_; rintro e w' ⟨rfl, rfl⟩)
          | (go_at_call 59; refine (in07_any _ _ _).mono ?_; rintro e w' ⟨rfl, rfl⟩))
      go_ret
      exact ⟨by rw [HN.out]; rfl, hB0.out⟩
    · have Pl := Lib.hid pl
      have ql : inB loc locs = true := pl
      clear pl
      cases pt : placeB false goal many
      · have HN := Lib.hid (show res = false by rw [← HR.out, pt]; simp)
        have qt : (goal == 0) = false := by simpa [placeB] using pt
        have qt2 : (goal != 0) = true := by simpa [placeB] using pt
        clear pt
        go_enter Try.func54, Try.ntmps54
        go_wp2_with (first
            | (go_at_call 57; refine (parts_3 _).mono ?_; rintro e w' ⟨rfl, rfl⟩)
            | (go_at_call 58; refine (has_lit _ _ true _ rfl (by decide)).mono ?_; rintro e w' ⟨rfl, rfl⟩)
            | (go_at_call 58; refine (has_lit _ _ false _ rfl (by decide)).mono ?_; rintro e w' ⟨rfl, rfl⟩)
            | (go_at_call 59; refine (in07_any _ _ _).mono ?_; rintro e w' ⟨rfl, rfl⟩))
        go_ret
        exact ⟨by rw [HN.out]; rfl, hB0.out⟩
      · have Pt := Lib.hid pt
        have qt : (goal == 0) = true := by simpa [placeB] using pt
        have qt2 : (goal != 0) = false := by simpa [placeB] using pt
        clear pt
        by_cases pe : n1 = 0
        · have PE := Lib.hid (show codeB false le regs = true from codeB_nil (N1.out.trans pe))
          subst pe
          by_cases pf : n2 = 0
          · have PF := Lib.hid (show codeB false lf regs = true from codeB_nil (N2.out.trans pf))
            subst pf
            cases ne
            all_goals
              go_enter Try.func54, Try.ntmps54
              go_wp2_with (first
                  | (go_at_call 57; refine (parts_3 _).mono ?_; rintro e w' ⟨rfl, rfl⟩)
                  | (go_at_call 58; refine (has_lit _ _ true _ rfl (by decide)).mono ?_; rintro e w' ⟨rfl, rfl⟩)
                  | (go_at_call 58; refine (has_lit _ _ false _ rfl (by decide)).mono ?_; rintro e w' ⟨rfl, rfl⟩)
                  | (go_at_call 59; refine (in07_any _ _ _).mono ?_; rintro e w' ⟨rfl, rfl⟩))
              go_ret
              exact ⟨by rw [← HR.out, Pr.out, Pl.out, Pt.out, PE.out, PF.out]; rfl, hB0.out⟩
          · have HN := Lib.hid (show res = false from HR.out.symm.trans (and_no_f (codeB_no N2.out (by omega))))
            have g2 : 0 < n2 := by omega
            go_enter Try.func54, Try.ntmps54
            go_wp2_with (first
                | (go_at_call 57; refine (parts_3 _).mono ?_; rintro e w' ⟨rfl, rfl⟩)
                | (go_at_call 58; refine (has_lit _ _ true _ rfl (by decide)).mono ?_; rintro e w' ⟨rfl, rfl⟩)
                | (go_at_call 58; refine (has_lit _ _ false _ rfl (by decide)).mono ?_; rintro e w' ⟨rfl, rfl⟩)
                | (go_at_call 59; refine (in07_any _ _ _).mono ?_; rintro e w' ⟨rfl, rfl⟩))
            go_ret
            exact ⟨by rw [HN.out]; rfl, hB0.out⟩
        · have HN := Lib.hid (show res = false from HR.out.symm.trans (and_no_e (codeB_no N1.out (by omega))))
          have g1 : 0 < n1 := by omega
          go_enter Try.func54, Try.ntmps54
          go_wp2_with (first
              | (go_at_call 57; refine (parts_3 _).mono ?_; rintro e w' ⟨rfl, rfl⟩)
              | (go_at_call 58; refine (has_lit _ _ true _ rfl (by decide)).mono ?_; rintro e w' ⟨rfl, rfl⟩)
              | (go_at_call 58; refine (has_lit _ _ false _ rfl (by decide)).mono ?_; rintro e w' ⟨rfl, rfl⟩)
              | (go_at_call 59; refine (in07_any _ _ _).mono ?_; rintro e w' ⟨rfl, rfl⟩))
          go_ret
          exact ⟨by rw [HN.out]; rfl, hB0.out⟩

set_option maxRecDepth 100000 in
set_option maxHeartbeats 4000000 in
theorem one07_4 (reg loc : Int) (le lf : List OpS) (ne : Bool) (goal : Int) (ve vf : Value) (regs locs many : Int) (w : World) (he : Sl rOp w ve le) (hf : Sl rOp w vf lf) :
    Calls Try.prog 54 #[.agg #[.int .i64 4, .int .i64 reg, .int .i64 loc, ve, vf, .bool ne, .int .i64 goal], .int .i64 regs, .int .i64 locs, .int .i64 many] w (BoolBelow (instrOk regs locs many ⟨4, reg, loc, le, lf, ne, goal⟩) w) := by
  have hl1 := he.len
  have hl2 := hf.len
  have HE := Lib.hid he; have HF := Lib.hid hf
  obtain ⟨ae, ce, rfl, h1⟩ := ops_view he
  obtain ⟨af, cf, rfl, h2⟩ := ops_view hf
  clear he hf h1 h2
  obtain ⟨n1, hn1⟩ : ∃ n, le.length = n := ⟨_, rfl⟩
  obtain ⟨n2, hn2⟩ : ∃ n, lf.length = n := ⟨_, rfl⟩
  rw [hn1] at hl1 HE ⊢
  rw [hn2] at hl2 HF ⊢
  have N1 := Lib.hid hn1; have N2 := Lib.hid hn2; clear hn1 hn2
  obtain ⟨res, hres⟩ : ∃ r, instrOk regs locs many ⟨4, reg, loc, le, lf, ne, goal⟩ = r := ⟨_, rfl⟩
  have HR : Hid (((!ne || false) && placeB false reg regs && placeB true loc locs && placeB false goal many && codeB true le regs && codeB false lf regs) = res) := hres
  rw [hres]
  clear hres
  have hB0 := Lib.hid (show Below w.heap.size w (w.alloc (.cells #[.int .i64 4, .int .i64 reg, .int .i64 loc, .slice ae n1 ce, .slice af n2 cf, .bool ne, .int .i64 goal] 60)) from (Below.refl _ _).alloc (Nat.le_refl _) _)
  cases pr : placeB false reg regs
  · have HN := Lib.hid (show res = false by rw [← HR.out, pr]; simp)
    have qr : (reg == 0) = false := by simpa [placeB] using pr
    have qr2 : (reg != 0) = true := by simpa [placeB] using pr
    clear pr
    go_enter Try.func54, Try.ntmps54
    go_wp2_with (first
        | (go_at_call 57; refine (parts_4 _).mono ?_; rintro e w' ⟨rfl, rfl⟩)
        | (go_at_call 58; refine (has_lit _ _ true _ rfl (by decide)).mono ?_; rintro e w' ⟨rfl, rfl⟩)
        | (go_at_call 58; refine (has_lit _ _ false _ rfl (by decide)).mono ?_; rintro e w' ⟨rfl, rfl⟩)
        | (go_at_call 59; refine (in07_any _ _ _).mono ?_; rintro e w' ⟨rfl, rfl⟩))
    go_ret
    exact ⟨by rw [HN.out]; rfl, hB0.out⟩
  · have Pr := Lib.hid pr
    have qr : (reg == 0) = true := by simpa [placeB] using pr
    have qr2 : (reg != 0) = false := by simpa [placeB] using pr
    clear pr
    cases pl : placeB true loc locs
    · have HN := Lib.hid (show res = false by rw [← HR.out, pl]; simp)
      have ql : inB loc locs = false := pl
      clear pl
      go_enter Try.func54, Try.ntmps54
      go_wp2_with (first
          | (go_at_call 57; refine (parts_4 _).mono ?_; rintro e w' ⟨rfl, rfl⟩)
          | (go_at_call 58; refine (has_lit _ _ true _ rfl (by decide)).mono ?_; rintro e w' ⟨rfl, rfl⟩)
          | (go_at_call 58; refine (has_lit _ _ false _ rfl (by decide)).mono ?_; rintro e w' ⟨rfl, rfl⟩)
          | (go_at_call 59; refine (in07_any _ _ _).mono ?_; rintro e w' ⟨rfl, rfl⟩))
      go_ret
      exact ⟨by rw [HN.out]; rfl, hB0.out⟩
    · have Pl := Lib.hid pl
      have ql : inB loc locs = true := pl
      clear pl
      cases pt : placeB false goal many
      · have HN := Lib.hid (show res = false by rw [← HR.out, pt]; simp)
        have qt : (goal == 0) = false := by simpa [placeB] using pt
        have qt2 : (goal != 0) = true := by simpa [placeB] using pt
        clear pt
        go_enter Try.func54, Try.ntmps54
        go_wp2_with (first
            | (go_at_call 57; refine (parts_4 _).mono ?_; rintro e w' ⟨rfl, rfl⟩)
            | (go_at_call 58; refine (has_lit _ _ true _ rfl (by decide)).mono ?_; rintro e w' ⟨rfl, rfl⟩)
            | (go_at_call 58; refine (has_lit _ _ false _ rfl (by decide)).mono ?_; rintro e w' ⟨rfl, rfl⟩)
            | (go_at_call 59; refine (in07_any _ _ _).mono ?_; rintro e w' ⟨rfl, rfl⟩))
        go_ret
        exact ⟨by rw [HN.out]; rfl, hB0.out⟩
      · have Pt := Lib.hid pt
        have qt : (goal == 0) = true := by simpa [placeB] using pt
        have qt2 : (goal != 0) = false := by simpa [placeB] using pt
        clear pt
        go_enter Try.func54, Try.ntmps54
        go_wp2_with (first
            | (go_at_call 57; refine (parts_4 _).mono ?_; rintro e w' ⟨rfl, rfl⟩)
            | (go_at_call 58; refine (has_lit _ _ true _ rfl (by decide)).mono ?_; rintro e w' ⟨rfl, rfl⟩)
            | (go_at_call 58; refine (has_lit _ _ false _ rfl (by decide)).mono ?_; rintro e w' ⟨rfl, rfl⟩)
            | (go_at_call 59; refine (in07_any _ _ _).mono ?_; rintro e w' ⟨rfl, rfl⟩))
        have c4 := new_cell w #[.int .i64 4, .int .i64 reg, .int .i64 loc, .slice ae n1 ce, .slice af n2 cf, .bool ne, .int .i64 goal] 60 4 _ rfl
        have c5 := new_cell w #[.int .i64 4, .int .i64 reg, .int .i64 loc, .slice ae n1 ce, .slice af n2 cf, .bool ne, .int .i64 goal] 60 5 _ rfl
        have hWs : w.heap.size < (w.alloc (.cells #[.int .i64 4, .int .i64 reg, .int .i64 loc, .slice ae n1 ce, .slice af n2 cf, .bool ne, .int .i64 goal] 60)).heap.size := by simp
        have HW := hB0
        clear hB0
        generalize w.alloc (.cells #[.int .i64 4, .int .i64 reg, .int .i64 loc, .slice ae n1 ce, .slice af n2 cf, .bool ne, .int .i64 goal] 60) = W at *
        refine (rightC06_any le [] regs 0 _ _ _ (HE.out.mono mono_op HW.out) (Sl.nil _ _)).mono ?_
        rintro e w2 ⟨rfl, hb⟩
        have r4 := cell_later hb c4
        have r5 := cell_later hb c5
        have HX := Lib.hid (HW.out.trans (hb.mono HW.out.size))
        have hW2 := hb.size
        clear hb c4 c5
        cases pe : rightC le [] regs 0
        · have HN := Lib.hid (show res = false from HR.out.symm.trans (and_no_e (e := codeB true le regs) pe))
          clear pe
          go_wp2_with (first
              | (go_at_call 57; refine (parts_4 _).mono ?_; rintro e w' ⟨rfl, rfl⟩)
              | (go_at_call 58; refine (has_lit _ _ true _ rfl (by decide)).mono ?_; rintro e w' ⟨rfl, rfl⟩)
              | (go_at_call 58; refine (has_lit _ _ false _ rfl (by decide)).mono ?_; rintro e w' ⟨rfl, rfl⟩)
              | (go_at_call 59; refine (in07_any _ _ _).mono ?_; rintro e w' ⟨rfl, rfl⟩))
          go_ret
          exact ⟨by rw [HN.out]; rfl, HX.out⟩
        · have PE : Hid (codeB true le regs = true) := pe
          clear pe
          by_cases pf : n2 = 0
          · have PF := Lib.hid (show codeB false lf regs = true from codeB_nil (N2.out.trans pf))
            subst pf
            cases ne
            all_goals
              go_wp2_with (first
                  | (go_at_call 57; refine (parts_4 _).mono ?_; rintro e w' ⟨rfl, rfl⟩)
                  | (go_at_call 58; refine (has_lit _ _ true _ rfl (by decide)).mono ?_; rintro e w' ⟨rfl, rfl⟩)
                  | (go_at_call 58; refine (has_lit _ _ false _ rfl (by decide)).mono ?_; rintro e w' ⟨rfl, rfl⟩)
                  | (go_at_call 59; refine (in07_any _ _ _).mono ?_; rintro e w' ⟨rfl, rfl⟩))
              go_ret
              exact ⟨by rw [← HR.out, Pr.out, Pl.out, Pt.out, PE.out, PF.out]; rfl, HX.out⟩
          · have HN := Lib.hid (show res = false from HR.out.symm.trans (and_no_f (codeB_no N2.out (by omega))))
            have g2 : 0 < n2 := by omega
            go_wp2_with (first
                | (go_at_call 57; refine (parts_4 _).mono ?_; rintro e w' ⟨rfl, rfl⟩)
                | (go_at_call 58; refine (has_lit _ _ true _ rfl (by decide)).mono ?_; rintro e w' ⟨rfl, rfl⟩)
                | (go_at_call 58; refine (has_lit _ _ false _ rfl (by decide)).mono ?_; rintro e w' ⟨rfl, rfl⟩)
                | (go_at_call 59; refine (in07_any _ _ _).mono ?_; rintro e w' ⟨rfl, rfl⟩))
            go_ret
            exact ⟨by rw [HN.out]; rfl, HX.out⟩

set_option maxRecDepth 100000 in
set_option maxHeartbeats 4000000 in
theorem one07_8 (reg loc : Int) (le lf : List OpS) (ne : Bool) (goal : Int) (ve vf : Value) (regs locs many : Int) (w : World) (he : Sl rOp w ve le) (hf : Sl rOp w vf lf) :
    Calls Try.prog 54 #[.agg #[.int .i64 8, .int .i64 reg, .int .i64 loc, ve, vf, .bool ne, .int .i64 goal], .int .i64 regs, .int .i64 locs, .int .i64 many] w (BoolBelow (instrOk regs locs many ⟨8, reg, loc, le, lf, ne, goal⟩) w) := by
  have hl1 := he.len
  have hl2 := hf.len
  have HE := Lib.hid he; have HF := Lib.hid hf
  obtain ⟨ae, ce, rfl, h1⟩ := ops_view he
  obtain ⟨af, cf, rfl, h2⟩ := ops_view hf
  clear he hf h1 h2
  obtain ⟨n1, hn1⟩ : ∃ n, le.length = n := ⟨_, rfl⟩
  obtain ⟨n2, hn2⟩ : ∃ n, lf.length = n := ⟨_, rfl⟩
  rw [hn1] at hl1 HE ⊢
  rw [hn2] at hl2 HF ⊢
  have N1 := Lib.hid hn1; have N2 := Lib.hid hn2; clear hn1 hn2
  obtain ⟨res, hres⟩ : ∃ r, instrOk regs locs many ⟨8, reg, loc, le, lf, ne, goal⟩ = r := ⟨_, rfl⟩
  have HR : Hid (((!ne || false) && placeB false reg regs && placeB false loc locs && placeB false goal many && codeB false le regs && codeB false lf regs) = res) := hres
  rw [hres]
  clear hres
  have hB0 := Lib.hid (show Below w.heap.size w (w.alloc (.cells #[.int .i64 8, .int .i64 reg, .int .i64 loc, .slice ae n1 ce, .slice af n2 cf, .bool ne, .int .i64 goal] 60)) from (Below.refl _ _).alloc (Nat.le_refl _) _)
  cases pr : placeB false reg regs
  · have HN := Lib.hid (show res = false by rw [← HR.out, pr]; simp)
    have qr : (reg == 0) = false := by simpa [placeB] using pr
    have qr2 : (reg != 0) = true := by simpa [placeB] using pr
    clear pr
    go_enter Try.func54, Try.ntmps54
    go_wp2_with (first
        | (go_at_call 57; refine (parts_8 _).mono ?_; rintro e w' ⟨rfl, rfl⟩)
        | (go_at_call 58; refine (has_lit _ _ true _ rfl (by decide)).mono ?_; rintro e w' ⟨rfl, rfl⟩)
        | (go_at_call 58; refine (has_lit _ _ false _ rfl (by decide)).mono ?_; rintro e w' ⟨rfl, rfl⟩)
        | (go_at_call 59; refine (in07_any _ _ _).mono ?_; rintro e w' ⟨rfl, rfl⟩))
    go_ret
    exact ⟨by rw [HN.out]; rfl, hB0.out⟩
  · have Pr := Lib.hid pr
    have qr : (reg == 0) = true := by simpa [placeB] using pr
    have qr2 : (reg != 0) = false := by simpa [placeB] using pr
    clear pr
    cases pl : placeB false loc locs
    · have HN := Lib.hid (show res = false by rw [← HR.out, pl]; simp)
      have ql : (loc == 0) = false := by simpa [placeB] using pl
      have ql2 : (loc != 0) = true := by simpa [placeB] using pl
      clear pl
      go_enter Try.func54, Try.ntmps54
      go_wp2_with (first
          | (go_at_call 57; refine (parts_8 _).mono ?_; rintro e w' ⟨rfl, rfl⟩)
          | (go_at_call 58; refine (has_lit _ _ true _ rfl (by decide)).mono ?_; rintro e w' ⟨rfl, rfl⟩)
          | (go_at_call 58; refine (has_lit _ _ false _ rfl (by decide)).mono ?_; rintro e w' ⟨rfl, rfl⟩)
          | (go_at_call 59; refine (in07_any _ _ _).mono ?_; rintro e w' ⟨rfl, rfl⟩))
      go_ret
      exact ⟨by rw [HN.out]; rfl, hB0.out⟩
    · have Pl := Lib.hid pl
      have ql : (loc == 0) = true := by simpa [placeB] using pl
      have ql2 : (loc != 0) = false := by simpa [placeB] using pl
      clear pl
      cases pt : placeB false goal many
      · have HN := Lib.hid (show res = false by rw [← HR.out, pt]; simp)
        have qt : (goal == 0) = false := by simpa [placeB] using pt
        have qt2 : (goal != 0) = true := by simpa [placeB] using pt
        clear pt
        go_enter Try.func54, Try.ntmps54
        go_wp2_with (first
            | (go_at_call 57; refine (parts_8 _).mono ?_; rintro e w' ⟨rfl, rfl⟩)
            | (go_at_call 58; refine (has_lit _ _ true _ rfl (by decide)).mono ?_; rintro e w' ⟨rfl, rfl⟩)
            | (go_at_call 58; refine (has_lit _ _ false _ rfl (by decide)).mono ?_; rintro e w' ⟨rfl, rfl⟩)
            | (go_at_call 59; refine (in07_any _ _ _).mono ?_; rintro e w' ⟨rfl, rfl⟩))
        go_ret
        exact ⟨by rw [HN.out]; rfl, hB0.out⟩
      · have Pt := Lib.hid pt
        have qt : (goal == 0) = true := by simpa [placeB] using pt
        have qt2 : (goal != 0) = false := by simpa [placeB] using pt
        clear pt
        by_cases pe : n1 = 0
        · have PE := Lib.hid (show codeB false le regs = true from codeB_nil (N1.out.trans pe))
          subst pe
          by_cases pf : n2 = 0
          · have PF := Lib.hid (show codeB false lf regs = true from codeB_nil (N2.out.trans pf))
            subst pf
            cases ne
            all_goals
              go_enter Try.func54, Try.ntmps54
              go_wp2_with (first
                  | (go_at_call 57; refine (parts_8 _).mono ?_; rintro e w' ⟨rfl, rfl⟩)
                  | (go_at_call 58; refine (has_lit _ _ true _ rfl (by decide)).mono ?_; rintro e w' ⟨rfl, rfl⟩)
                  | (go_at_call 58; refine (has_lit _ _ false _ rfl (by decide)).mono ?_; rintro e w' ⟨rfl, rfl⟩)
                  | (go_at_call 59; refine (in07_any _ _ _).mono ?_; rintro e w' ⟨rfl, rfl⟩))
              go_ret
              exact ⟨by rw [← HR.out, Pr.out, Pl.out, Pt.out, PE.out, PF.out]; rfl, hB0.out⟩
          · have HN := Lib.hid (show res = false from HR.out.symm.trans (and_no_f (codeB_no N2.out (by omega))))
            have g2 : 0 < n2 := by omega
            go_enter Try.func54, Try.ntmps54
            go_wp2_with (first
                | (go_at_call 57; refine (parts_8 _).mono ?_; rintro e w' ⟨rfl, rfl⟩)
                | (go_at_call 58; refine (has_lit _ _ true _ rfl (by decide)).mono ?_; rintro e w' ⟨rfl, rfl⟩)
                | (go_at_call 58; refine (has_lit _ _ false _ rfl (by decide)).mono ?_; rintro e w' ⟨rfl, rfl⟩)
                | (go_at_call 59; refine (in07_any _ _ _).mono ?_; rintro e w' ⟨rfl, rfl⟩))
            go_ret
            exact ⟨by rw [HN.out]; rfl, hB0.out⟩
        · have HN := Lib.hid (show res = false from HR.out.symm.trans (and_no_e (codeB_no N1.out (by omega))))
          have g1 : 0 < n1 := by omega
          go_enter Try.func54, Try.ntmps54
          go_wp2_with (first
              | (go_at_call 57; refine (parts_8 _).mono ?_; rintro e w' ⟨rfl, rfl⟩)
              | (go_at_call 58; refine (has_lit _ _ true _ rfl (by decide)).mono ?_; rintro e w' ⟨rfl, rfl⟩)
              | (go_at_call 58; refine (has_lit _ _ false _ rfl (by decide)).mono ?_; rintro e w' ⟨rfl, rfl⟩)
              | (go_at_call 59; refine (in07_any _ _ _).mono ?_; rintro e w' ⟨rfl, rfl⟩))
          go_ret
          exact ⟨by rw [HN.out]; rfl, hB0.out⟩

end Go.Proofs.Ytmaklniljnbokaa
end

section
namespace Go.Proofs.Ytmaklniljnbokaa
open Go.RowKit
set_option linter.unusedVariables false
set_option linter.unusedSimpArgs false

set_option maxRecDepth 100000 in
set_option maxHeartbeats 4000000 in
theorem one07_5 (reg loc : Int) (le lf : List OpS) (ne : Bool) (goal : Int) (ve vf : Value) (regs locs many : Int) (w : World) (he : Sl rOp w ve le) (hf : Sl rOp w vf lf) :
    Calls Try.prog 54 #[.agg #[.int .i64 5, .int .i64 reg, .int .i64 loc, ve, vf, .bool ne, .int .i64 goal], .int .i64 regs, .int .i64 locs, .int .i64 many] w (BoolBelow (instrOk regs locs many ⟨5, reg, loc, le, lf, ne, goal⟩) w) := by
  have hl1 := he.len
  have hl2 := hf.len
  have HE := Lib.hid he; have HF := Lib.hid hf
  obtain ⟨ae, ce, rfl, h1⟩ := ops_view he
  obtain ⟨af, cf, rfl, h2⟩ := ops_view hf
  clear he hf h1 h2
  obtain ⟨n1, hn1⟩ : ∃ n, le.length = n := ⟨_, rfl⟩
  obtain ⟨n2, hn2⟩ : ∃ n, lf.length = n := ⟨_, rfl⟩
  rw [hn1] at hl1 HE ⊢
  rw [hn2] at hl2 HF ⊢
  have N1 := Lib.hid hn1; have N2 := Lib.hid hn2; clear hn1 hn2
  obtain ⟨res, hres⟩ : ∃ r, instrOk regs locs many ⟨5, reg, loc, le, lf, ne, goal⟩ = r := ⟨_, rfl⟩
  have HR : Hid (((!ne || false) && placeB true reg regs && placeB true loc locs && placeB false goal many && codeB true le regs && codeB true lf regs) = res) := hres
  rw [hres]
  clear hres
  have hB0 := Lib.hid (show Below w.heap.size w (w.alloc (.cells #[.int .i64 5, .int .i64 reg, .int .i64 loc, .slice ae n1 ce, .slice af n2 cf, .bool ne, .int .i64 goal] 60)) from (Below.refl _ _).alloc (Nat.le_refl _) _)
  cases pr : placeB true reg regs
  · have HN := Lib.hid (show res = false by rw [← HR.out, pr]; simp)
    have qr : inB reg regs = false := pr
    clear pr
    go_enter Try.func54, Try.ntmps54
    go_wp2_with (first
        | (go_at_call 57; refine (parts_5 _).mono ?_; rintro e w' ⟨rfl, rfl⟩)
        | (go_at_call 58; refine (has_lit _ _ true _ rfl (by decide)).mono ?_; rintro e w' ⟨rfl, rfl⟩)
        | (go_at_call 58; refine (has_lit _ _ false _ rfl (by decide)).mono ?_; rintro e w' ⟨rfl, rfl⟩)
        | (go_at_call 59; refine (in07_any _ _ _).mono ?_; rintro e w' ⟨rfl, rfl⟩))
    go_ret
    exact ⟨by rw [HN.out]; rfl, hB0.out⟩
  · have Pr := Lib.hid pr
    have qr : inB reg regs = true := pr
    clear pr
    cases pl : placeB true loc locs
    · have HN := Lib.hid (show res = false by rw [← HR.out, pl]; simp)
      have ql : inB loc locs = false := pl
      clear pl
      go_enter Try.func54, Try.ntmps54
      go_wp2_with (first
          | (go_at_call 57; refine (parts_5 _).mono ?_; rintro e w' ⟨rfl, rfl⟩)
          | (go_at_call 58; refine (has_lit _ _ true _ rfl (by decide)).mono ?_; rintro e w' ⟨rfl, rfl⟩)
          | (go_at_call 58; refine (has_lit _ _ false _ rfl (by decide)).mono ?_; rintro e w' ⟨rfl, rfl⟩)
          | (go_at_call 59; refine (in07_any _ _ _).mono ?_; rintro e w' ⟨rfl, rfl⟩))
      go_ret
      exact ⟨by rw [HN.out]; rfl, hB0.out⟩
    · have Pl := Lib.hid pl
      have ql : inB loc locs = true := pl
      clear pl
      cases pt : placeB false goal many
      · have HN := Lib.hid (show res = false by rw [← HR.out, pt]; simp)
        have qt : (goal == 0) = false := by simpa [placeB] using pt
        have qt2 : (goal != 0) = true := by simpa [placeB] using pt
        clear pt
        go_enter Try.func54, Try.ntmps54
        go_wp2_with (first
            | (go_at_call 57; refine (parts_5 _).mono ?_; rintro e w' ⟨rfl, rfl⟩)
            | (go_at_call 58; refine (has_lit _ _ true _ rfl (by decide)).mono ?_; rintro e w' ⟨rfl, rfl⟩)
            | (go_at_call 58; refine (has_lit _ _ false _ rfl (by decide)).mono ?_; rintro e w' ⟨rfl, rfl⟩)
            | (go_at_call 59; refine (in07_any _ _ _).mono ?_; rintro e w' ⟨rfl, rfl⟩))
        go_ret
        exact ⟨by rw [HN.out]; rfl, hB0.out⟩
      · have Pt := Lib.hid pt
        have qt : (goal == 0) = true := by simpa [placeB] using pt
        have qt2 : (goal != 0) = false := by simpa [placeB] using pt
        clear pt
        go_enter Try.func54, Try.ntmps54
        go_wp2_with (first
            | (go_at_call 57; refine (parts_5 _).mono ?_; rintro e w' ⟨rfl, rfl⟩)
            | (go_at_call 58; refine (has_lit _ _ true _ rfl (by decide)).mono ?_; rintro e w' ⟨rfl, rfl⟩)
            | (go_at_call 58; refine (has_lit _ _ false _ rfl (by decide)).mono ?_; rintro e w' ⟨rfl, rfl⟩)
            | (go_at_call 59; refine (in07_any _ _ _).mono ?_; rintro e w' ⟨rfl, rfl⟩))
        have c4 := new_cell w #[.int .i64 5, .int .i64 reg, .int .i64 loc, .slice ae n1 ce, .slice af n2 cf, .bool ne, .int .i64 goal] 60 4 _ rfl
        have c5 := new_cell w #[.int .i64 5, .int .i64 reg, .int .i64 loc, .slice ae n1 ce, .slice af n2 cf, .bool ne, .int .i64 goal] 60 5 _ rfl
        have hWs : w.heap.size < (w.alloc (.cells #[.int .i64 5, .int .i64 reg, .int .i64 loc, .slice ae n1 ce, .slice af n2 cf, .bool ne, .int .i64 goal] 60)).heap.size := by simp
        have HW := hB0
        clear hB0
        generalize w.alloc (.cells #[.int .i64 5, .int .i64 reg, .int .i64 loc, .slice ae n1 ce, .slice af n2 cf, .bool ne, .int .i64 goal] 60) = W at *
        refine (rightC06_any le [] regs 0 _ _ _ (HE.out.mono mono_op HW.out) (Sl.nil _ _)).mono ?_
        rintro e w2 ⟨rfl, hb⟩
        have r4 := cell_later hb c4
        have r5 := cell_later hb c5
        have HX := Lib.hid (HW.out.trans (hb.mono HW.out.size))
        have hW2 := hb.size
        clear hb c4 c5
        cases pe : rightC le [] regs 0
        · have HN := Lib.hid (show res = false from HR.out.symm.trans (and_no_e (e := codeB true le regs) pe))
          clear pe
          go_wp2_with (first
              | (go_at_call 57; refine (parts_5 _).mono ?_; rintro e w' ⟨rfl, rfl⟩)
              | (go_at_call 58; refine (has_lit _ _ true _ rfl (by decide)).mono ?_; rintro e w' ⟨rfl, rfl⟩)
              | (go_at_call 58; refine (has_lit _ _ false _ rfl (by decide)).mono ?_; rintro e w' ⟨rfl, rfl⟩)
              | (go_at_call 59; refine (in07_any _ _ _).mono ?_; rintro e w' ⟨rfl, rfl⟩))
          go_ret
          exact ⟨by rw [HN.out]; rfl, HX.out⟩
        · have PE : Hid (codeB true le regs = true) := pe
          clear pe
          go_wp2_with (first
              | (go_at_call 57; refine (parts_5 _).mono ?_; rintro e w' ⟨rfl, rfl⟩)
              | (go_at_call 58; refine (has_lit _ _ true _ rfl (by decide)).mono ?_; rintro e w' ⟨rfl, rfl⟩)
              | (go_at_call 58; refine (has_lit _ _ false _ rfl (by decide)).mono ?_; rintro e w' ⟨rfl, rfl⟩)
              | (go_at_call 59; refine (in07_any _ _ _).mono ?_; rintro e w' ⟨rfl, rfl⟩))
          refine (rightC06_any lf [] regs 0 _ _ _ (HF.out.mono mono_op HX.out) (Sl.nil _ _)).mono ?_
          rintro e w3 ⟨rfl, hb⟩
          have s5 := cell_later hb r5
          have HY := Lib.hid (HX.out.trans (hb.mono HX.out.size))
          clear hb r4 r5
          cases pf : rightC lf [] regs 0
          · have HN := Lib.hid (show res = false from HR.out.symm.trans (and_no_f (f := codeB true lf regs) pf))
            clear pf
            go_wp2_with (first
                | (go_at_call 57; refine (parts_5 _).mono ?_; rintro e w' ⟨rfl, rfl⟩)
                | (go_at_call 58; refine (has_lit _ _ true _ rfl (by decide)).mono ?_; rintro e w' ⟨rfl, rfl⟩)
                | (go_at_call 58; refine (has_lit _ _ false _ rfl (by decide)).mono ?_; rintro e w' ⟨rfl, rfl⟩)
                | (go_at_call 59; refine (in07_any _ _ _).mono ?_; rintro e w' ⟨rfl, rfl⟩))
            go_ret
            exact ⟨by rw [HN.out]; rfl, HY.out⟩
          · have PF : Hid (codeB true lf regs = true) := pf
            clear pf
            cases ne
            all_goals
              go_wp2_with (first
                  | (go_at_call 57; refine (parts_5 _).mono ?_; rintro e w' ⟨rfl, rfl⟩)
                  | (go_at_call 58; refine (has_lit _ _ true _ rfl (by decide)).mono ?_; rintro e w' ⟨rfl, rfl⟩)
                  | (go_at_call 58; refine (has_lit _ _ false _ rfl (by decide)).mono ?_; rintro e w' ⟨rfl, rfl⟩)
                  | (go_at_call 59; refine (in07_any _ _ _).mono ?_; rintro e w' ⟨rfl, rfl⟩))
              go_ret
              exact ⟨by rw [← HR.out, Pr.out, Pl.out, Pt.out, PE.out, PF.out]; rfl, HY.out⟩

set_option maxRecDepth 100000 in
set_option maxHeartbeats 4000000 in
theorem one07_6 (reg loc : Int) (le lf : List OpS) (ne : Bool) (goal : Int) (ve vf : Value) (regs locs many : Int) (w : World) (he : Sl rOp w ve le) (hf : Sl rOp w vf lf) :
    Calls Try.prog 54 #[.agg #[.int .i64 6, .int .i64 reg, .int .i64 loc, ve, vf, .bool ne, .int .i64 goal], .int .i64 regs, .int .i64 locs, .int .i64 many] w (BoolBelow (instrOk regs locs many ⟨6, reg, loc, le, lf, ne, goal⟩) w) := by
  have hl1 := he.len
  have hl2 := hf.len
  have HE := Lib.hid he; have HF := Lib.hid hf
  obtain ⟨ae, ce, rfl, h1⟩ := ops_view he
  obtain ⟨af, cf, rfl, h2⟩ := ops_view hf
  clear he hf h1 h2
  obtain ⟨n1, hn1⟩ : ∃ n, le.length = n := ⟨_, rfl⟩
  obtain ⟨n2, hn2⟩ : ∃ n, lf.length = n := ⟨_, rfl⟩
  rw [hn1] at hl1 HE ⊢
  rw [hn2] at hl2 HF ⊢
  have N1 := Lib.hid hn1; have N2 := Lib.hid hn2; clear hn1 hn2
  obtain ⟨res, hres⟩ : ∃ r, instrOk regs locs many ⟨6, reg, loc, le, lf, ne, goal⟩ = r := ⟨_, rfl⟩
  have HR : Hid (((!ne || false) && placeB true reg regs && placeB true loc locs && placeB false goal many && codeB true le regs && codeB false lf regs) = res) := hres
  rw [hres]
  clear hres
  have hB0 := Lib.hid (show Below w.heap.size w (w.alloc (.cells #[.int .i64 6, .int .i64 reg, .int .i64 loc, .slice ae n1 ce, .slice af n2 cf, .bool ne, .int .i64 goal] 60)) from (Below.refl _ _).alloc (Nat.le_refl _) _)
  cases pr : placeB true reg regs
  · have HN := Lib.hid (show res = false by rw [← HR.out, pr]; simp)
    have qr : inB reg regs = false := pr
    clear pr
    go_enter Try.func54, Try.ntmps54
    go_wp2_with (first
        | (go_at_call 57; refine (parts_6 _).mono ?_; rintro e w' ⟨rfl, rfl⟩)
        | (go_at_call 58; refine (has_lit _ _ true _ rfl (by decide)).mono ?_; rintro e w' ⟨rfl, rfl⟩)
        | (go_at_call 58; refine (has_lit _ _ false _ rfl (by decide)).mono ?_; rintro e w' ⟨rfl, rfl⟩)
        | (go_at_call 59; refine (in07_any _ _ _).mono ?_; rintro e w' ⟨rfl, rfl⟩))
    go_ret
    exact ⟨by rw [HN.out]; rfl, hB0.out⟩
  · have Pr := Lib.hid pr
    have qr : inB reg regs = true := pr
    clear pr
    cases pl : placeB true loc locs
    · have HN := Lib.hid (show res = false by rw [← HR.out, pl]; simp)
      have ql : inB loc locs = false := pl
      clear pl
      go_enter Try.func54, Try.ntmps54
      go_wp2_with (first
          | (go_at_call 57; refine (parts_6 _).mono ?_; rintro e w' ⟨rfl, rfl⟩)
          | (go_at_call 58; refine (has_lit _ _ true _ rfl (by decide)).mono ?_; rintro e w' ⟨rfl, rfl⟩)
          | (go_at_call 58; refine (has_lit _ _ false _ rfl (by decide)).mono ?_; rintro e w' ⟨rfl, rfl⟩)
          | (go_at_call 59; refine (in07_any _ _ _).mono ?_; rintro e w' ⟨rfl, rfl⟩))
      go_ret
      exact ⟨by rw [HN.out]; rfl, hB0.out⟩
    · have Pl := Lib.hid pl
      have ql : inB loc locs = true := pl
      clear pl
      cases pt : placeB false goal many
      · have HN := Lib.hid (show res = false by rw [← HR.out, pt]; simp)
        have qt : (goal == 0) = false := by simpa [placeB] using pt
        have qt2 : (goal != 0) = true := by simpa [placeB] using pt
        clear pt
        go_enter Try.func54, Try.ntmps54
        go_wp2_with (first
            | (go_at_call 57; refine (parts_6 _).mono ?_; rintro e w' ⟨rfl, rfl⟩)
            | (go_at_call 58; refine (has_lit _ _ true _ rfl (by decide)).mono ?_; rintro e w' ⟨rfl, rfl⟩)
            | (go_at_call 58; refine (has_lit _ _ false _ rfl (by decide)).mono ?_; rintro e w' ⟨rfl, rfl⟩)
            | (go_at_call 59; refine (in07_any _ _ _).mono ?_; rintro e w' ⟨rfl, rfl⟩))
        go_ret
        exact ⟨by rw [HN.out]; rfl, hB0.out⟩
      · have Pt := Lib.hid pt
        have qt : (goal == 0) = true := by simpa [placeB] using pt
        have qt2 : (goal != 0) = false := by simpa [placeB] using pt
        clear pt
        go_enter Try.func54, Try.ntmps54
        go_wp2_with (first
            | (go_at_call 57; refine (parts_6 _).mono ?_; rintro e w' ⟨rfl, rfl⟩)
            | (go_at_call 58; refine (has_lit _ _ true _ rfl (by decide)).mono ?_; rintro e w' ⟨rfl, rfl⟩)
            | (go_at_call 58; refine (has_lit _ _ false _ rfl (by decide)).mono ?_; rintro e w' ⟨rfl, rfl⟩)
            | (go_at_call 59; refine (in07_any _ _ _).mono ?_; rintro e w' ⟨rfl, rfl⟩))
        have c4 := new_cell w #[.int .i64 6, .int .i64 reg, .int .i64 loc, .slice ae n1 ce, .slice af n2 cf, .bool ne, .int .i64 goal] 60 4 _ rfl
        have c5 := new_cell w #[.int .i64 6, .int .i64 reg, .int .i64 loc, .slice ae n1 ce, .slice af n2 cf, .bool ne, .int .i64 goal] 60 5 _ rfl
        have hWs : w.heap.size < (w.alloc (.cells #[.int .i64 6, .int .i64 reg, .int .i64 loc, .slice ae n1 ce, .slice af n2 cf, .bool ne, .int .i64 goal] 60)).heap.size := by simp
        have HW := hB0
        clear hB0
        generalize w.alloc (.cells #[.int .i64 6, .int .i64 reg, .int .i64 loc, .slice ae n1 ce, .slice af n2 cf, .bool ne, .int .i64 goal] 60) = W at *
        refine (rightC06_any le [] regs 0 _ _ _ (HE.out.mono mono_op HW.out) (Sl.nil _ _)).mono ?_
        rintro e w2 ⟨rfl, hb⟩
        have r4 := cell_later hb c4
        have r5 := cell_later hb c5
        have HX := Lib.hid (HW.out.trans (hb.mono HW.out.size))
        have hW2 := hb.size
        clear hb c4 c5
        cases pe : rightC le [] regs 0
        · have HN := Lib.hid (show res = false from HR.out.symm.trans (and_no_e (e := codeB true le regs) pe))
          clear pe
          go_wp2_with (first
              | (go_at_call 57; refine (parts_6 _).mono ?_; rintro e w' ⟨rfl, rfl⟩)
              | (go_at_call 58; refine (has_lit _ _ true _ rfl (by decide)).mono ?_; rintro e w' ⟨rfl, rfl⟩)
              | (go_at_call 58; refine (has_lit _ _ false _ rfl (by decide)).mono ?_; rintro e w' ⟨rfl, rfl⟩)
              | (go_at_call 59; refine (in07_any _ _ _).mono ?_; rintro e w' ⟨rfl, rfl⟩))
          go_ret
          exact ⟨by rw [HN.out]; rfl, HX.out⟩
        · have PE : Hid (codeB true le regs = true) := pe
          clear pe
          by_cases pf : n2 = 0
          · have PF := Lib.hid (show codeB false lf regs = true from codeB_nil (N2.out.trans pf))
            subst pf
            cases ne
            all_goals
              go_wp2_with (first
                  | (go_at_call 57; refine (parts_6 _).mono ?_; rintro e w' ⟨rfl, rfl⟩)
                  | (go_at_call 58; refine (has_lit _ _ true _ rfl (by decide)).mono ?_; rintro e w' ⟨rfl, rfl⟩)
                  | (go_at_call 58; refine (has_lit _ _ false _ rfl (by decide)).mono ?_; rintro e w' ⟨rfl, rfl⟩)
                  | (go_at_call 59; refine (in07_any _ _ _).mono ?_; rintro e w' ⟨rfl, rfl⟩))
              go_ret
              exact ⟨by rw [← HR.out, Pr.out, Pl.out, Pt.out, PE.out, PF.out]; rfl, HX.out⟩
          · have HN := Lib.hid (show res = false from HR.out.symm.trans (and_no_f (codeB_no N2.out (by omega))))
            have g2 : 0 < n2 := by omega
            go_wp2_with (first
                | (go_at_call 57; refine (parts_6 _).mono ?_; rintro e w' ⟨rfl, rfl⟩)
                | (go_at_call 58; refine (has_lit _ _ true _ rfl (by decide)).mono ?_; rintro e w' ⟨rfl, rfl⟩)
                | (go_at_call 58; refine (has_lit _ _ false _ rfl (by decide)).mono ?_; rintro e w' ⟨rfl, rfl⟩)
                | (go_at_call 59; refine (in07_any _ _ _).mono ?_; rintro e w' ⟨rfl, rfl⟩))
            go_ret
            exact ⟨by rw [HN.out]; rfl, HX.out⟩

set_option maxRecDepth 100000 in
set_option maxHeartbeats 4000000 in
theorem one07_7 (reg loc : Int) (le lf : List OpS) (ne : Bool) (goal : Int) (ve vf : Value) (regs locs many : Int) (w : World) (he : Sl rOp w ve le) (hf : Sl rOp w vf lf) :
    Calls Try.prog 54 #[.agg #[.int .i64 7, .int .i64 reg, .int .i64 loc, ve, vf, .bool ne, .int .i64 goal], .int .i64 regs, .int .i64 locs, .int .i64 many] w (BoolBelow (instrOk regs locs many ⟨7, reg, loc, le, lf, ne, goal⟩) w) := by
  have hl1 := he.len
  have hl2 := hf.len
  have HE := Lib.hid he; have HF := Lib.hid hf
  obtain ⟨ae, ce, rfl, h1⟩ := ops_view he
  obtain ⟨af, cf, rfl, h2⟩ := ops_view hf
  clear he hf h1 h2
  obtain ⟨n1, hn1⟩ : ∃ n, le.length = n := ⟨_, rfl⟩
  obtain ⟨n2, hn2⟩ : ∃ n, lf.length = n := ⟨_, rfl⟩
  rw [hn1] at hl1 HE ⊢
  rw [hn2] at hl2 HF ⊢
  have N1 := Lib.hid hn1; have N2 := Lib.hid hn2; clear hn1 hn2
  obtain ⟨res, hres⟩ : ∃ r, instrOk regs locs many ⟨7, reg, loc, le, lf, ne, goal⟩ = r := ⟨_, rfl⟩
  have HR : Hid (((!ne || false) && placeB true reg regs && placeB true loc locs && placeB false goal many && codeB true le regs && codeB false lf regs) = res) := hres
  rw [hres]
  clear hres
  have hB0 := Lib.hid (show Below w.heap.size w (w.alloc (.cells #[.int .i64 7, .int .i64 reg, .int .i64 loc, .slice ae n1 ce, .slice af n2 cf, .bool ne, .int .i64 goal] 60)) from (Below.refl _ _).alloc (Nat.le_refl _) _)
  cases pr : placeB true reg regs
  · have HN := Lib.hid (show res = false by rw [← HR.out, pr]; simp)
    have qr : inB reg regs = false := pr
    clear pr
    go_enter Try.func54, Try.ntmps54
    go_wp2_with (first
        | (go_at_call 57; refine (parts_7 _).mono ?_; rintro e w' ⟨rfl, rfl⟩)
        | (go_at_call 58; refine (has_lit _ _ true _ rfl (by decide)).mono ?_; rintro e w' ⟨rfl, rfl⟩)
        | (go_at_call 58; refine (has_lit _ _ false _ rfl (by decide)).mono ?_; rintro e w' ⟨rfl, rfl⟩)
        | (go_at_call 59; refine (in07_any _ _ _).mono ?_; rintro e w' ⟨rfl, rfl⟩))
    go_ret
    exact ⟨by rw [HN.out]; rfl, hB0.out⟩
  · have Pr := Lib.hid pr
    have qr : inB reg regs = true := pr
    clear pr
    cases pl : placeB true loc locs
    · have HN := Lib.hid (show res = false by rw [← HR.out, pl]; simp)
      have ql : inB loc locs = false := pl
      clear pl
      go_enter Try.func54, Try.ntmps54
      go_wp2_with (first
          | (go_at_call 57; refine (parts_7 _).mono ?_; rintro e w' ⟨rfl, rfl⟩)
          | (go_at_call 58; refine (has_lit _ _ true _ rfl (by decide)).mono ?_; rintro e w' ⟨rfl, rfl⟩)
          | (go_at_call 58; refine (has_lit _ _ false _ rfl (by decide)).mono ?_; rintro e w' ⟨rfl, rfl⟩)
          | (go_at_call 59; refine (in07_any _ _ _).mono ?_; rintro e w' ⟨rfl, rfl⟩))
      go_ret
      exact ⟨by rw [HN.out]; rfl, hB0.out⟩
    · have Pl := Lib.hid pl
      have ql : inB loc locs = true := pl
      clear pl
      cases pt : placeB false goal many
      · have HN := Lib.hid (show res = false by rw [← HR.out, pt]; simp)
        have qt : (goal == 0) = false := by simpa [placeB] using pt
        have qt2 : (goal != 0) = true := by simpa [placeB] using pt
        clear pt
        go_enter Try.func54, Try.ntmps54
        go_wp2_with (first
            | (go_at_call 57; refine (parts_7 _).mono ?_; rintro e w' ⟨rfl, rfl⟩)
            | (go_at_call 58; refine (has_lit _ _ true _ rfl (by decide)).mono ?_; rintro e w' ⟨rfl, rfl⟩)
            | (go_at_call 58; refine (has_lit _ _ false _ rfl (by decide)).mono ?_; rintro e w' ⟨rfl, rfl⟩)
            | (go_at_call 59; refine (in07_any _ _ _).mono ?_; rintro e w' ⟨rfl, rfl⟩))
        go_ret
        exact ⟨by rw [HN.out]; rfl, hB0.out⟩
      · have Pt := Lib.hid pt
        have qt : (goal == 0) = true := by simpa [placeB] using pt
        have qt2 : (goal != 0) = false := by simpa [placeB] using pt
        clear pt
        go_enter Try.func54, Try.ntmps54
        go_wp2_with (first
            | (go_at_call 57; refine (parts_7 _).mono ?_; rintro e w' ⟨rfl, rfl⟩)
            | (go_at_call 58; refine (has_lit _ _ true _ rfl (by decide)).mono ?_; rintro e w' ⟨rfl, rfl⟩)
            | (go_at_call 58; refine (has_lit _ _ false _ rfl (by decide)).mono ?_; rintro e w' ⟨rfl, rfl⟩)
            | (go_at_call 59; refine (in07_any _ _ _).mono ?_; rintro e w' ⟨rfl, rfl⟩))
        have c4 := new_cell w #[.int .i64 7, .int .i64 reg, .int .i64 loc, .slice ae n1 ce, .slice af n2 cf, .bool ne, .int .i64 goal] 60 4 _ rfl
        have c5 := new_cell w #[.int .i64 7, .int .i64 reg, .int .i64 loc, .slice ae n1 ce, .slice af n2 cf, .bool ne, .int .i64 goal] 60 5 _ rfl
        have hWs : w.heap.size < (w.alloc (.cells #[.int .i64 7, .int .i64 reg, .int .i64 loc, .slice ae n1 ce, .slice af n2 cf, .bool ne, .int .i64 goal] 60)).heap.size := by simp
        have HW := hB0
        clear hB0
        generalize w.alloc (.cells #[.int .i64 7, .int .i64 reg, .int .i64 loc, .slice ae n1 ce, .slice af n2 cf, .bool ne, .int .i64 goal] 60) = W at *
        refine (rightC06_any le [] regs 0 _ _ _ (HE.out.mono mono_op HW.out) (Sl.nil _ _)).mono ?_
        rintro e w2 ⟨rfl, hb⟩
        have r4 := cell_later hb c4
        have r5 := cell_later hb c5
        have HX := Lib.hid (HW.out.trans (hb.mono HW.out.size))
        have hW2 := hb.size
        clear hb c4 c5
        cases pe : rightC le [] regs 0
        · have HN := Lib.hid (show res = false from HR.out.symm.trans (and_no_e (e := codeB true le regs) pe))
          clear pe
          go_wp2_with (first
              | (go_at_call 57; refine (parts_7 _).mono ?_; rintro e w' ⟨rfl, rfl⟩)
              | (go_at_call 58; refine (has_lit _ _ true _ rfl (by decide)).mono ?_; rintro e w' ⟨rfl, rfl⟩)
              | (go_at_call 58; refine (has_lit _ _ false _ rfl (by decide)).mono ?_; rintro e w' ⟨rfl, rfl⟩)
              | (go_at_call 59; refine (in07_any _ _ _).mono ?_; rintro e w' ⟨rfl, rfl⟩))
          go_ret
          exact ⟨by rw [HN.out]; rfl, HX.out⟩
        · have PE : Hid (codeB true le regs = true) := pe
          clear pe
          by_cases pf : n2 = 0
          · have PF := Lib.hid (show codeB false lf regs = true from codeB_nil (N2.out.trans pf))
            subst pf
            cases ne
            all_goals
              go_wp2_with (first
                  | (go_at_call 57; refine (parts_7 _).mono ?_; rintro e w' ⟨rfl, rfl⟩)
                  | (go_at_call 58; refine (has_lit _ _ true _ rfl (by decide)).mono ?_; rintro e w' ⟨rfl, rfl⟩)
                  | (go_at_call 58; refine (has_lit _ _ false _ rfl (by decide)).mono ?_; rintro e w' ⟨rfl, rfl⟩)
                  | (go_at_call 59; refine (in07_any _ _ _).mono ?_; rintro e w' ⟨rfl, rfl⟩))
              go_ret
              exact ⟨by rw [← HR.out, Pr.out, Pl.out, Pt.out, PE.out, PF.out]; rfl, HX.out⟩
          · have HN := Lib.hid (show res = false from HR.out.symm.trans (and_no_f (codeB_no N2.out (by omega))))
            have g2 : 0 < n2 := by omega
            go_wp2_with (first
                | (go_at_call 57; refine (parts_7 _).mono ?_; rintro e w' ⟨rfl, rfl⟩)
                | (go_at_call 58; refine (has_lit _ _ true _ rfl (by decide)).mono ?_; rintro e w' ⟨rfl, rfl⟩)
                | (go_at_call 58; refine (has_lit _ _ false _ rfl (by decide)).mono ?_; rintro e w' ⟨rfl, rfl⟩)
                | (go_at_call 59; refine (in07_any _ _ _).mono ?_; rintro e w' ⟨rfl, rfl⟩))
            go_ret
            exact ⟨by rw [HN.out]; rfl, HX.out⟩

end Go.Proofs.Ytmaklniljnbokaa
end

section
namespace Go.Proofs.Ytmaklniljnbokaa
open Go.RowKit
set_option linter.unusedVariables false
set_option linter.unusedSimpArgs false

set_option maxRecDepth 100000 in
set_option maxHeartbeats 4000000 in
theorem one07_9 (reg loc : Int) (le lf : List OpS) (ne : Bool) (goal : Int) (ve vf : Value) (regs locs many : Int) (w : World) (he : Sl rOp w ve le) (hf : Sl rOp w vf lf) :
    Calls Try.prog 54 #[.agg #[.int .i64 9, .int .i64 reg, .int .i64 loc, ve, vf, .bool ne, .int .i64 goal], .int .i64 regs, .int .i64 locs, .int .i64 many] w (BoolBelow (instrOk regs locs many ⟨9, reg, loc, le, lf, ne, goal⟩) w) := by
  have hl1 := he.len
  have hl2 := hf.len
  have HE := Lib.hid he; have HF := Lib.hid hf
  obtain ⟨ae, ce, rfl, h1⟩ := ops_view he
  obtain ⟨af, cf, rfl, h2⟩ := ops_view hf
  clear he hf h1 h2
  obtain ⟨n1, hn1⟩ : ∃ n, le.length = n := ⟨_, rfl⟩
  obtain ⟨n2, hn2⟩ : ∃ n, lf.length = n := ⟨_, rfl⟩
  rw [hn1] at hl1 HE ⊢
  rw [hn2] at hl2 HF ⊢
  have N1 := Lib.hid hn1; have N2 := Lib.hid hn2; clear hn1 hn2
  obtain ⟨res, hres⟩ : ∃ r, instrOk regs locs many ⟨9, reg, loc, le, lf, ne, goal⟩ = r := ⟨_, rfl⟩
  have HR : Hid (((!ne || true) && placeB false reg regs && placeB true loc locs && placeB false goal many && codeB true le regs && codeB false lf regs) = res) := hres
  rw [hres]
  clear hres
  have hB0 := Lib.hid (show Below w.heap.size w (w.alloc (.cells #[.int .i64 9, .int .i64 reg, .int .i64 loc, .slice ae n1 ce, .slice af n2 cf, .bool ne, .int .i64 goal] 60)) from (Below.refl _ _).alloc (Nat.le_refl _) _)
  cases pr : placeB false reg regs
  · have HN := Lib.hid (show res = false by rw [← HR.out, pr]; simp)
    have qr : (reg == 0) = false := by simpa [placeB] using pr
    have qr2 : (reg != 0) = true := by simpa [placeB] using pr
    clear pr
    go_enter Try.func54, Try.ntmps54
    go_wp2_with (first
        | (go_at_call 57; refine (parts_9 _).mono ?_; rintro e w' ⟨rfl, rfl⟩)
        | (go_at_call 58; refine (has_lit _ _ true _ rfl (by decide)).mono ?_; rintro e w' ⟨rfl, rfl⟩)
        | (go_at_call 58; refine (has_lit _ _ false _ rfl (by decide)).mono ?_; rintro e w' ⟨rfl, rfl⟩)
        | (go_at_call 59; refine (in07_any _ _ _).mono ?_; rintro e w' ⟨rfl, rfl⟩))
    go_ret
    exact ⟨by rw [HN.out]; rfl, hB0.out⟩
  · have Pr := Lib.hid pr
    have qr : (reg == 0) = true := by simpa [placeB] using pr
    have qr2 : (reg != 0) = false := by simpa [placeB] using pr
    clear pr
    cases pl : placeB true loc locs
    · have HN := Lib.hid (show res = false by rw [← HR.out, pl]; simp)
      have ql : inB loc locs = false := pl
      clear pl
      go_enter Try.func54, Try.ntmps54
      go_wp2_with (first
          | (go_at_call 57; refine (parts_9 _).mono ?_; rintro e w' ⟨rfl, rfl⟩)
          | (go_at_call 58; refine (has_lit _ _ true _ rfl (by decide)).mono ?_; rintro e w' ⟨rfl, rfl⟩)
          | (go_at_call 58; refine (has_lit _ _ false _ rfl (by decide)).mono ?_; rintro e w' ⟨rfl, rfl⟩)
          | (go_at_call 59; refine (in07_any _ _ _).mono ?_; rintro e w' ⟨rfl, rfl⟩))
      go_ret
      exact ⟨by rw [HN.out]; rfl, hB0.out⟩
    · have Pl := Lib.hid pl
      have ql : inB loc locs = true := pl
      clear pl
      cases pt : placeB false goal many
      · have HN := Lib.hid (show res = false by rw [← HR.out, pt]; simp)
        have qt : (goal == 0) = false := by simpa [placeB] using pt
        have qt2 : (goal != 0) = true := by simpa [placeB] using pt
        clear pt
        go_enter Try.func54, Try.ntmps54
        go_wp2_with (first
            | (go_at_call 57; refine (parts_9 _).mono ?_; rintro e w' ⟨rfl, rfl⟩)
            | (go_at_call 58; refine (has_lit _ _ true _ rfl (by decide)).mono ?_; rintro e w' ⟨rfl, rfl⟩)
            | (go_at_call 58; refine (has_lit _ _ false _ rfl (by decide)).mono ?_; rintro e w' ⟨rfl, rfl⟩)
            | (go_at_call 59; refine (in07_any _ _ _).mono ?_; rintro e w' ⟨rfl, rfl⟩))
        go_ret
        exact ⟨by rw [HN.out]; rfl, hB0.out⟩
      · have Pt := Lib.hid pt
        have qt : (goal == 0) = true := by simpa [placeB] using pt
        have qt2 : (goal != 0) = false := by simpa [placeB] using pt
        clear pt
        go_enter Try.func54, Try.ntmps54
        go_wp2_with (first
            | (go_at_call 57; refine (parts_9 _).mono ?_; rintro e w' ⟨rfl, rfl⟩)
            | (go_at_call 58; refine (has_lit _ _ true _ rfl (by decide)).mono ?_; rintro e w' ⟨rfl, rfl⟩)
            | (go_at_call 58; refine (has_lit _ _ false _ rfl (by decide)).mono ?_; rintro e w' ⟨rfl, rfl⟩)
            | (go_at_call 59; refine (in07_any _ _ _).mono ?_; rintro e w' ⟨rfl, rfl⟩))
        have c4 := new_cell w #[.int .i64 9, .int .i64 reg, .int .i64 loc, .slice ae n1 ce, .slice af n2 cf, .bool ne, .int .i64 goal] 60 4 _ rfl
        have c5 := new_cell w #[.int .i64 9, .int .i64 reg, .int .i64 loc, .slice ae n1 ce, .slice af n2 cf, .bool ne, .int .i64 goal] 60 5 _ rfl
        have hWs : w.heap.size < (w.alloc (.cells #[.int .i64 9, .int .i64 reg, .int .i64 loc, .slice ae n1 ce, .slice af n2 cf, .bool ne, .int .i64 goal] 60)).heap.size := by simp
        have HW := hB0
        clear hB0
        generalize w.alloc (.cells #[.int .i64 9, .int .i64 reg, .int .i64 loc, .slice ae n1 ce, .slice af n2 cf, .bool ne, .int .i64 goal] 60) = W at *
        refine (rightC06_any le [] regs 0 _ _ _ (HE.out.mono mono_op HW.out) (Sl.nil _ _)).mono ?_
        rintro e w2 ⟨rfl, hb⟩
        have r4 := cell_later hb c4
        have r5 := cell_later hb c5
        have HX := Lib.hid (HW.out.trans (hb.mono HW.out.size))
        have hW2 := hb.size
        clear hb c4 c5
        cases pe : rightC le [] regs 0
        · have HN := Lib.hid (show res = false from HR.out.symm.trans (and_no_e (e := codeB true le regs) pe))
          clear pe
          go_wp2_with (first
              | (go_at_call 57; refine (parts_9 _).mono ?_; rintro e w' ⟨rfl, rfl⟩)
              | (go_at_call 58; refine (has_lit _ _ true _ rfl (by decide)).mono ?_; rintro e w' ⟨rfl, rfl⟩)
              | (go_at_call 58; refine (has_lit _ _ false _ rfl (by decide)).mono ?_; rintro e w' ⟨rfl, rfl⟩)
              | (go_at_call 59; refine (in07_any _ _ _).mono ?_; rintro e w' ⟨rfl, rfl⟩))
          go_ret
          exact ⟨by rw [HN.out]; rfl, HX.out⟩
        · have PE : Hid (codeB true le regs = true) := pe
          clear pe
          by_cases pf : n2 = 0
          · have PF := Lib.hid (show codeB false lf regs = true from codeB_nil (N2.out.trans pf))
            subst pf
            cases ne
            all_goals
              go_wp2_with (first
                  | (go_at_call 57; refine (parts_9 _).mono ?_; rintro e w' ⟨rfl, rfl⟩)
                  | (go_at_call 58; refine (has_lit _ _ true _ rfl (by decide)).mono ?_; rintro e w' ⟨rfl, rfl⟩)
                  | (go_at_call 58; refine (has_lit _ _ false _ rfl (by decide)).mono ?_; rintro e w' ⟨rfl, rfl⟩)
                  | (go_at_call 59; refine (in07_any _ _ _).mono ?_; rintro e w' ⟨rfl, rfl⟩))
              go_ret
              exact ⟨by rw [← HR.out, Pr.out, Pl.out, Pt.out, PE.out, PF.out]; rfl, HX.out⟩
          · have HN := Lib.hid (show res = false from HR.out.symm.trans (and_no_f (codeB_no N2.out (by omega))))
            have g2 : 0 < n2 := by omega
            go_wp2_with (first
                | (go_at_call 57; refine (parts_9 _).mono ?_; rintro e w' ⟨rfl, rfl⟩)
                | (go_at_call 58; refine (has_lit _ _ true _ rfl (by decide)).mono ?_; rintro e w' ⟨rfl, rfl⟩)
                | (go_at_call 58; refine (has_lit _ _ false _ rfl (by decide)).mono ?_; rintro e w' ⟨rfl, rfl⟩)
                | (go_at_call 59; refine (in07_any _ _ _).mono ?_; rintro e w' ⟨rfl, rfl⟩))
            go_ret
            exact ⟨by rw [HN.out]; rfl, HX.out⟩

set_option maxRecDepth 100000 in
set_option maxHeartbeats 4000000 in
theorem one07_20 (reg loc : Int) (le lf : List OpS) (ne : Bool) (goal : Int) (ve vf : Value) (regs locs many : Int) (w : World) (he : Sl rOp w ve le) (hf : Sl rOp w vf lf) :
    Calls Try.prog 54 #[.agg #[.int .i64 20, .int .i64 reg, .int .i64 loc, ve, vf, .bool ne, .int .i64 goal], .int .i64 regs, .int .i64 locs, .int .i64 many] w (BoolBelow (instrOk regs locs many ⟨20, reg, loc, le, lf, ne, goal⟩) w) := by
  have hl1 := he.len
  have hl2 := hf.len
  have HE := Lib.hid he; have HF := Lib.hid hf
  obtain ⟨ae, ce, rfl, h1⟩ := ops_view he
  obtain ⟨af, cf, rfl, h2⟩ := ops_view hf
  clear he hf h1 h2
  obtain ⟨n1, hn1⟩ : ∃ n, le.length = n := ⟨_, rfl⟩
  obtain ⟨n2, hn2⟩ : ∃ n, lf.length = n := ⟨_, rfl⟩
  rw [hn1] at hl1 HE ⊢
  rw [hn2] at hl2 HF ⊢
  have N1 := Lib.hid hn1; have N2 := Lib.hid hn2; clear hn1 hn2
  obtain ⟨res, hres⟩ : ∃ r, instrOk regs locs many ⟨20, reg, loc, le, lf, ne, goal⟩ = r := ⟨_, rfl⟩
  have HR : Hid (((!ne || false) && placeB false reg regs && placeB false loc locs && placeB true goal many && codeB false le regs && codeB false lf regs) = res) := hres
  rw [hres]
  clear hres
  have hB0 := Lib.hid (show Below w.heap.size w (w.alloc (.cells #[.int .i64 20, .int .i64 reg, .int .i64 loc, .slice ae n1 ce, .slice af n2 cf, .bool ne, .int .i64 goal] 60)) from (Below.refl _ _).alloc (Nat.le_refl _) _)
  cases pr : placeB false reg regs
  · have HN := Lib.hid (show res = false by rw [← HR.out, pr]; simp)
    have qr : (reg == 0) = false := by simpa [placeB] using pr
    have qr2 : (reg != 0) = true := by simpa [placeB] using pr
    clear pr
    go_enter Try.func54, Try.ntmps54
    go_wp2_with (first
        | (go_at_call 57; refine (parts_20 _).mono ?_; rintro e w' ⟨rfl, rfl⟩)
        | (go_at_call 58; refine (has_lit _ _ true _ rfl (by decide)).mono ?_; rintro e w' ⟨rfl, rfl⟩)
        | (go_at_call 58; refine (has_lit _ _ false _ rfl (by decide)).mono ?_; rintro e w' ⟨rfl, rfl⟩)
        | (go_at_call 59; refine (in07_any _ _ _).mono ?_; rintro e w' ⟨rfl, rfl⟩))
    go_ret
    exact ⟨by rw [HN.out]; rfl, hB0.out⟩
  · have Pr := Lib.hid pr
    have qr : (reg == 0) = true := by simpa [placeB] using pr
    have qr2 : (reg != 0) = false := by simpa [placeB] using pr
    clear pr
    cases pl : placeB false loc locs
    · have HN := Lib.hid (show res = false by rw [← HR.out, pl]; simp)
      have ql : (loc == 0) = false := by simpa [placeB] using pl
      have ql2 : (loc != 0) = true := by simpa [placeB] using pl
      clear pl
      go_enter Try.func54, Try.ntmps54
      go_wp2_with (first
          | (go_at_call 57; refine (parts_20 _).mono ?_; rintro e w' ⟨rfl, rfl⟩)
          | (go_at_call 58; refine (has_lit _ _ true _ rfl (by decide)).mono ?_; rintro e w' ⟨rfl, rfl⟩)
          | (go_at_call 58; refine (has_lit _ _ false _ rfl (by decide)).mono ?_; rintro e w' ⟨rfl, rfl⟩)
          | (go_at_call 59; refine (in07_any _ _ _).mono ?_; rintro e w' ⟨rfl, rfl⟩))
      go_ret
      exact ⟨by rw [HN.out]; rfl, hB0.out⟩
    · have Pl := Lib.hid pl
      have ql : (loc == 0) = true := by simpa [placeB] using pl
      have ql2 : (loc != 0) = false := by simpa [placeB] using pl
      clear pl
      cases pt : placeB true goal many
      · have HN := Lib.hid (show res = false by rw [← HR.out, pt]; simp)
        have qt : inB goal many = false := pt
        clear pt
        go_enter Try.func54, Try.ntmps54
        go_wp2_with (first
            | (go_at_call 57; refine (parts_20 _).mono ?_; rintro e w' ⟨rfl, rfl⟩)
            | (go_at_call 58; refine (has_lit _ _ true _ rfl (by decide)).mono ?_; rintro e w' ⟨rfl, rfl⟩)
            | (go_at_call 58; refine (has_lit _ _ false _ rfl (by decide)).mono ?_; rintro e w' ⟨rfl, rfl⟩)
            | (go_at_call 59; refine (in07_any _ _ _).mono ?_; rintro e w' ⟨rfl, rfl⟩))
        go_ret
        exact ⟨by rw [HN.out]; rfl, hB0.out⟩
      · have Pt := Lib.hid pt
        have qt : inB goal many = true := pt
        clear pt
        by_cases pe : n1 = 0
        · have PE := Lib.hid (show codeB false le regs = true from codeB_nil (N1.out.trans pe))
          subst pe
          by_cases pf : n2 = 0
          · have PF := Lib.hid (show codeB false lf regs = true from codeB_nil (N2.out.trans pf))
            subst pf
            cases ne
            all_goals
              go_enter Try.func54, Try.ntmps54
              go_wp2_with (first
                  | (go_at_call 57; refine (parts_20 _).mono ?_; rintro e w' ⟨rfl, rfl⟩)
                  | (go_at_call 58; refine (has_lit _ _ true _ rfl (by decide)).mono ?_; rintro e w' ⟨rfl, rfl⟩)
                  | (go_at_call 58; refine (has_lit _ _ false _ rfl (by decide)).mono ?_; rintro e w' ⟨rfl, rfl⟩)
                  | (go_at_call 59; refine (in07_any _ _ _).mono ?_; rintro e w' ⟨rfl, rfl⟩))
              go_ret
              exact ⟨by rw [← HR.out, Pr.out, Pl.out, Pt.out, PE.out, PF.out]; rfl, hB0.out⟩
          · have HN := Lib.hid (show res = false from HR.out.symm.trans (and_no_f (codeB_no N2.out (by omega))))
            have g2 : 0 < n2 := by omega
            go_enter Try.func54, Try.ntmps54
            go_wp2_with (first
                | (go_at_call 57; refine (parts_20 _).mono ?_; rintro e w' ⟨rfl, rfl⟩)
                | (go_at_call 58; refine (has_lit _ _ true _ rfl (by decide)).mono ?_; rintro e w' ⟨rfl, rfl⟩)
                | (go_at_call 58; refine (has_lit _ _ false _ rfl (by decide)).mono ?_; rintro e w' ⟨rfl, rfl⟩)
                | (go_at_call 59; refine (in07_any _ _ _).mono ?_; rintro e w' ⟨rfl, rfl⟩))
            go_ret
            exact ⟨by rw [HN.out]; rfl, hB0.out⟩
        · have HN := Lib.hid (show res = false from HR.out.symm.trans (and_no_e (codeB_no N1.out (by omega))))
          have g1 : 0 < n1 := by omega
          go_enter Try.func54, Try.ntmps54
          go_wp2_with (first
              | (go_at_call 57; refine (parts_20 _).mono ?_; rintro e w' ⟨rfl, rfl⟩)
              | (go_at_call 58; refine (has_lit _ _ true _ rfl (by decide)).mono ?_; rintro e w' ⟨rfl, rfl⟩)
              | (go_at_call 58; refine (has_lit _ _ false _ rfl (by decide)).mono ?_; rintro e w' ⟨rfl, rfl⟩)
              | (go_at_call 59; refine (in07_any _ _ _).mono ?_; rintro e w' ⟨rfl, rfl⟩))
          go_ret
          exact ⟨by rw [HN.out]; rfl, hB0.out⟩

set_option maxRecDepth 100000 in
set_option maxHeartbeats 4000000 in
theorem one07_21 (reg loc : Int) (le lf : List OpS) (ne : Bool) (goal : Int) (ve vf : Value) (regs locs many : Int) (w : World) (he : Sl rOp w ve le) (hf : Sl rOp w vf lf) :
    Calls Try.prog 54 #[.agg #[.int .i64 21, .int .i64 reg, .int .i64 loc, ve, vf, .bool ne, .int .i64 goal], .int .i64 regs, .int .i64 locs, .int .i64 many] w (BoolBelow (instrOk regs locs many ⟨21, reg, loc, le, lf, ne, goal⟩) w) := by
  have hl1 := he.len
  have hl2 := hf.len
  have HE := Lib.hid he; have HF := Lib.hid hf
  obtain ⟨ae, ce, rfl, h1⟩ := ops_view he
  obtain ⟨af, cf, rfl, h2⟩ := ops_view hf
  clear he hf h1 h2
  obtain ⟨n1, hn1⟩ : ∃ n, le.length = n := ⟨_, rfl⟩
  obtain ⟨n2, hn2⟩ : ∃ n, lf.length = n := ⟨_, rfl⟩
  rw [hn1] at hl1 HE ⊢
  rw [hn2] at hl2 HF ⊢
  have N1 := Lib.hid hn1; have N2 := Lib.hid hn2; clear hn1 hn2
  obtain ⟨res, hres⟩ : ∃ r, instrOk regs locs many ⟨21, reg, loc, le, lf, ne, goal⟩ = r := ⟨_, rfl⟩
  have HR : Hid (((!ne || false) && placeB false reg regs && placeB false loc locs && placeB true goal many && codeB true le regs && codeB false lf regs) = res) := hres
  rw [hres]
  clear hres
  have hB0 := Lib.hid (show Below w.heap.size w (w.alloc (.cells #[.int .i64 21, .int .i64 reg, .int .i64 loc, .slice ae n1 ce, .slice af n2 cf, .bool ne, .int .i64 goal] 60)) from (Below.refl _ _).alloc (Nat.le_refl _) _)
  cases pr : placeB false reg regs
  · have HN := Lib.hid (show res = false by rw [← HR.out, pr]; simp)
    have qr : (reg == 0) = false := by simpa [placeB] using pr
    have qr2 : (reg != 0) = true := by simpa [placeB] using pr
    clear pr
    go_enter Try.func54, Try.ntmps54
    go_wp2_with (first
        | (go_at_call 57; refine (parts_21 _).mono ?_; rintro e w' ⟨rfl, rfl⟩)
        | (go_at_call 58; refine (has_lit _ _ true _ rfl (by decide)).mono ?_; rintro e w' ⟨rfl, rfl⟩)
        | (go_at_call 58; refine (has_lit _ _ false _ rfl (by decide)).mono ?_; rintro e w' ⟨rfl, rfl⟩)
        | (go_at_call 59; refine (in07_any _ _ _).mono ?_; rintro e w' ⟨rfl, rfl⟩))
    go_ret
    exact ⟨by rw [HN.out]; rfl, hB0.out⟩
  · have Pr := Lib.hid pr
    have qr : (reg == 0) = true := by simpa [placeB] using pr
    have qr2 : (reg != 0) = false := by simpa [placeB] using pr
    clear pr
    cases pl : placeB false loc locs
    · have HN := Lib.hid (show res = false by rw [← HR.out, pl]; simp)
      have ql : (loc == 0) = false := by simpa [placeB] using pl
      have ql2 : (loc != 0) = true := by simpa [placeB] using pl
      clear pl
      go_enter Try.func54, Try.ntmps54
      go_wp2_with (first
          | (go_at_call 57; refine (parts_21 _).mono ?_; rintro e w' ⟨rfl, rfl⟩)
          | (go_at_call 58; refine (has_lit _ _ true _ rfl (by decide)).mono ?_; rintro e w' ⟨rfl, rfl⟩)
          | (go_at_call 58; refine (has_lit _ _ false _ rfl (by decide)).mono ?_; rintro e w' ⟨rfl, rfl⟩)
          | (go_at_call 59; refine (in07_any _ _ _).mono ?_; rintro e w' ⟨rfl, rfl⟩))
      go_ret
      exact ⟨by rw [HN.out]; rfl, hB0.out⟩
    · have Pl := Lib.hid pl
      have ql : (loc == 0) = true := by simpa [placeB] using pl
      have ql2 : (loc != 0) = false := by simpa [placeB] using pl
      clear pl
      cases pt : placeB true goal many
      · have HN := Lib.hid (show res = false by rw [← HR.out, pt]; simp)
        have qt : inB goal many = false := pt
        clear pt
        go_enter Try.func54, Try.ntmps54
        go_wp2_with (first
            | (go_at_call 57; refine (parts_21 _).mono ?_; rintro e w' ⟨rfl, rfl⟩)
            | (go_at_call 58; refine (has_lit _ _ true _ rfl (by decide)).mono ?_; rintro e w' ⟨rfl, rfl⟩)
            | (go_at_call 58; refine (has_lit _ _ false _ rfl (by decide)).mono ?_; rintro e w' ⟨rfl, rfl⟩)
            | (go_at_call 59; refine (in07_any _ _ _).mono ?_; rintro e w' ⟨rfl, rfl⟩))
        go_ret
        exact ⟨by rw [HN.out]; rfl, hB0.out⟩
      · have Pt := Lib.hid pt
        have qt : inB goal many = true := pt
        clear pt
        go_enter Try.func54, Try.ntmps54
        go_wp2_with (first
            | (go_at_call 57; refine (parts_21 _).mono ?_; rintro e w' ⟨rfl, rfl⟩)
            | (go_at_call 58; refine (has_lit _ _ true _ rfl (by decide)).mono ?_; rintro e w' ⟨rfl, rfl⟩)
            | (go_at_call 58; refine (has_lit _ _ false _ rfl (by decide)).mono ?_; rintro e w' ⟨rfl, rfl⟩)
            | (go_at_call 59; refine (in07_any _ _ _).mono ?_; rintro e w' ⟨rfl, rfl⟩))
        have c4 := new_cell w #[.int .i64 21, .int .i64 reg, .int .i64 loc, .slice ae n1 ce, .slice af n2 cf, .bool ne, .int .i64 goal] 60 4 _ rfl
        have c5 := new_cell w #[.int .i64 21, .int .i64 reg, .int .i64 loc, .slice ae n1 ce, .slice af n2 cf, .bool ne, .int .i64 goal] 60 5 _ rfl
        have hWs : w.heap.size < (w.alloc (.cells #[.int .i64 21, .int .i64 reg, .int .i64 loc, .slice ae n1 ce, .slice af n2 cf, .bool ne, .int .i64 goal] 60)).heap.size := by simp
        have HW := hB0
        clear hB0
        generalize w.alloc (.cells #[.int .i64 21, .int .i64 reg, .int .i64 loc, .slice ae n1 ce, .slice af n2 cf, .bool ne, .int .i64 goal] 60) = W at *
        refine (rightC06_any le [] regs 0 _ _ _ (HE.out.mono mono_op HW.out) (Sl.nil _ _)).mono ?_
        rintro e w2 ⟨rfl, hb⟩
        have r4 := cell_later hb c4
        have r5 := cell_later hb c5
        have HX := Lib.hid (HW.out.trans (hb.mono HW.out.size))
        have hW2 := hb.size
        clear hb c4 c5
        cases pe : rightC le [] regs 0
        · have HN := Lib.hid (show res = false from HR.out.symm.trans (and_no_e (e := codeB true le regs) pe))
          clear pe
          go_wp2_with (first
              | (go_at_call 57; refine (parts_21 _).mono ?_; rintro e w' ⟨rfl, rfl⟩)
              | (go_at_call 58; refine (has_lit _ _ true _ rfl (by decide)).mono ?_; rintro e w' ⟨rfl, rfl⟩)
              | (go_at_call 58; refine (has_lit _ _ false _ rfl (by decide)).mono ?_; rintro e w' ⟨rfl, rfl⟩)
              | (go_at_call 59; refine (in07_any _ _ _).mono ?_; rintro e w' ⟨rfl, rfl⟩))
          go_ret
          exact ⟨by rw [HN.out]; rfl, HX.out⟩
        · have PE : Hid (codeB true le regs = true) := pe
          clear pe
          by_cases pf : n2 = 0
          · have PF := Lib.hid (show codeB false lf regs = true from codeB_nil (N2.out.trans pf))
            subst pf
            cases ne
            all_goals
              go_wp2_with (first
                  | (go_at_call 57; refine (parts_21 _).mono ?_; rintro e w' ⟨rfl, rfl⟩)
                  | (go_at_call 58; refine (has_lit _ _ true _ rfl (by decide)).mono ?_; rintro e w' ⟨rfl, rfl⟩)
                  | (go_at_call 58; refine (has_lit _ _ false _ rfl (by decide)).mono ?_; rintro e w' ⟨rfl, rfl⟩)
                  | (go_at_call 59; refine (in07_any _ _ _).mono ?_; rintro e w' ⟨rfl, rfl⟩))
              go_ret
              exact ⟨by rw [← HR.out, Pr.out, Pl.out, Pt.out, PE.out, PF.out]; rfl, HX.out⟩
          · have HN := Lib.hid (show res = false from HR.out.symm.trans (and_no_f (codeB_no N2.out (by omega))))
            have g2 : 0 < n2 := by omega
            go_wp2_with (first
                | (go_at_call 57; refine (parts_21 _).mono ?_; rintro e w' ⟨rfl, rfl⟩)
                | (go_at_call 58; refine (has_lit _ _ true _ rfl (by decide)).mono ?_; rintro e w' ⟨rfl, rfl⟩)
                | (go_at_call 58; refine (has_lit _ _ false _ rfl (by decide)).mono ?_; rintro e w' ⟨rfl, rfl⟩)
                | (go_at_call 59; refine (in07_any _ _ _).mono ?_; rintro e w' ⟨rfl, rfl⟩))
            go_ret
            exact ⟨by rw [HN.out]; rfl, HX.out⟩

end Go.Proofs.Ytmaklniljnbokaa
end

section
namespace Go.Proofs.Ytmaklniljnbokaa
open Go.RowKit
set_option linter.unusedVariables false
set_option linter.unusedSimpArgs false

set_option maxRecDepth 100000 in
set_option maxHeartbeats 4000000 in
theorem one07_none (op reg loc : Int) (le lf : List OpS) (ne : Bool) (goal : Int) (ve vf : Value) (regs locs many : Int) (w : World) (he : Sl rOp w ve le) (hf : Sl rOp w vf lf) (h : needsOf op = none) :
    Calls Try.prog 54 #[.agg #[.int .i64 op, .int .i64 reg, .int .i64 loc, ve, vf, .bool ne, .int .i64 goal], .int .i64 regs, .int .i64 locs, .int .i64 many] w (BoolBelow (instrOk regs locs many ⟨op, reg, loc, le, lf, ne, goal⟩) w) := by
  have HN := Lib.hid (show instrOk regs locs many ⟨op, reg, loc, le, lf, ne, goal⟩ = false by simp [instrOk, h])
  rw [HN.out]
  obtain ⟨ae, ce, rfl, h1⟩ := ops_view he
  obtain ⟨af, cf, rfl, h2⟩ := ops_view hf
  have H := Lib.hid h
  clear he hf h1 h2 h
  go_enter Try.func54, Try.ntmps54
  go_wp2_with (first | (go_at_call 57; refine (parts_none op _ H.out).mono ?_; rintro e w' ⟨rfl, rfl⟩))
  go_ret
  exact ⟨rfl, (Below.refl _ _).alloc (Nat.le_refl _) _⟩

theorem needs_kinds (op : Int) : (op = 2 ∨ op = 3 ∨ op = 4 ∨ op = 5 ∨ op = 6 ∨ op = 7 ∨ op = 8 ∨ op = 9 ∨ op = 20 ∨ op = 21) ∨ needsOf op = none := by
  by_cases h : op = 2 ∨ op = 3 ∨ op = 4 ∨ op = 5 ∨ op = 6 ∨ op = 7 ∨ op = 8 ∨ op = 9 ∨ op = 20 ∨ op = 21
  · exact .inl h
  · right
    simp only [needsOf]
    repeat rw [if_neg (by omega)]

theorem one07_any (op reg loc : Int) (le lf : List OpS) (ne : Bool) (goal : Int) (ve vf : Value) (regs locs many : Int) (w : World) (he : Sl rOp w ve le) (hf : Sl rOp w vf lf) :
    Calls Try.prog 54 #[.agg #[.int .i64 op, .int .i64 reg, .int .i64 loc, ve, vf, .bool ne, .int .i64 goal], .int .i64 regs, .int .i64 locs, .int .i64 many] w (BoolBelow (instrOk regs locs many ⟨op, reg, loc, le, lf, ne, goal⟩) w) := by
  rcases needs_kinds op with (rfl | rfl | rfl | rfl | rfl | rfl | rfl | rfl | rfl | rfl) | h
  · exact one07_2 _ _ _ _ _ _ _ _ _ _ _ _ he hf
  · exact one07_3 _ _ _ _ _ _ _ _ _ _ _ _ he hf
  · exact one07_4 _ _ _ _ _ _ _ _ _ _ _ _ he hf
  · exact one07_5 _ _ _ _ _ _ _ _ _ _ _ _ he hf
  · exact one07_6 _ _ _ _ _ _ _ _ _ _ _ _ he hf
  · exact one07_7 _ _ _ _ _ _ _ _ _ _ _ _ he hf
  · exact one07_8 _ _ _ _ _ _ _ _ _ _ _ _ he hf
  · exact one07_9 _ _ _ _ _ _ _ _ _ _ _ _ he hf
  · exact one07_20 _ _ _ _ _ _ _ _ _ _ _ _ he hf
  · exact one07_21 _ _ _ _ _ _ _ _ _ _ _ _ he hf
  · exact one07_none _ _ _ _ _ _ _ _ _ _ _ _ _ he hf h

set_option maxRecDepth 100000 in
set_option maxHeartbeats 4000000 in
theorem right07_head (u : UnitS) (v : Value) (w : World) (hv : UnitV w v u) (hh : headOk u = false ∨ allIn u.init u.mod = false) :
    Calls Try.prog 49 #[v] w (BoolBelow false w) := by
  obtain ⟨vi, vr, vc, rfl, s1, s2, s3, m1, m2⟩ := hv
  have l1 := s1.len; have l2 := s2.len; have l3 := s3.len
  have S1 := Lib.hid s1
  obtain ⟨a1, c1, rfl, h1⟩ := ints_view s1
  obtain ⟨a2, c2, rfl, h2⟩ := ints_view s2
  obtain ⟨a3, c3, rfl, h3⟩ := slices_view s3
  clear s1 s2 s3 h1 h2 h3
  obtain ⟨b, hb⟩ : ∃ b, allIn u.init u.mod = b := ⟨_, rfl⟩
  have HH : Hid (2 ≤ u.mod → u.mod ≤ 16 → b = true → u.init.length ≤ 6 → 1 ≤ u.regs.length → u.regs.length ≤ 4 → u.code.length = u.regs.length → False) := fun h1 h2 h3 h4 h5 h6 h7 => by
    rcases hh with hh | hh
    · exact headOk_no hh h1 h2 h4 h5 h6 h7
    · rw [hb, h3] at hh; cases hh
  clear hh
  obtain ⟨mod, init, regs, code⟩ := u
  dsimp only at *
  have HBB := Lib.hid hb
  clear hb
  obtain ⟨n1, hn1⟩ : ∃ n, init.length = n := ⟨_, rfl⟩
  rw [hn1] at l1 S1 HH ⊢
  clear hn1
  generalize regs.length = n2 at *
  generalize code.length = n3 at *
  cases b
  all_goals
    go_enter Try.func49, Try.ntmps49
    go_wp2_with (first | (go_at_call 52; refine (all06_any init mod _ _ (S1.out.mono (mono_int _) ((Below.refl _ _).alloc (Nat.le_refl _) _))).mono ?_; rintro e w' ⟨rfl, rfl⟩; rw [HBB.out]))
    all_goals
      first
      | (go_ret; exact ⟨rfl, (Below.refl _ _).alloc (Nat.le_refl _) _⟩)
      | (exfalso; exact HH.out (by omega) (by omega) (by first | rfl | trivial) (by omega) (by omega) (by omega) (by first | omega | exact eq_of_ne (by first | assumption | exact (by assumption : _ ∧ ((n3 : Int) != (n2 : Int)) = false).2)))

set_option maxRecDepth 100000 in
set_option maxHeartbeats 8000000 in
theorem right07_main (u : UnitS) (v : Value) (w : World) (hv : UnitV w v u) (hh : headOk u = true) (hi : allIn u.init u.mod = true) :
    Calls Try.prog 49 #[v] w (BoolBelow (rightU u) w) := by
  obtain ⟨vi, vr, vc, rfl, s1, s2, s3, m1, m2⟩ := hv
  have l1 := s1.len; have l2 := s2.len; have l3 := s3.len
  have S1 := Lib.hid s1
  obtain ⟨a1, c1, rfl, h1⟩ := ints_view s1
  obtain ⟨a2, c2, rfl, h2⟩ := ints_view s2
  obtain ⟨a3, c3, rfl, h3⟩ := slices_view s3
  have H2 := Lib.hid h2; have H3 := Lib.hid h3
  clear s1 s2 s3 h1 h2 h3
  have HH := Lib.hid hh
  have HI := Lib.hid hi
  simp only [headOk, decide_eq_true_eq] at hh
  obtain ⟨g1, g2, g3, g4, g5, g6⟩ := hh
  obtain ⟨res, hres⟩ : ∃ r, rightU u = r := ⟨_, rfl⟩
  have HR := Lib.hid hres
  rw [hres]
  clear hres hi
  obtain ⟨mod, init, regs, code⟩ := u
  dsimp only at *
  obtain ⟨n1, hn1⟩ : ∃ n, init.length = n := ⟨_, rfl⟩
  obtain ⟨n2, hn2⟩ : ∃ n, regs.length = n := ⟨_, rfl⟩
  rw [hn1] at g3 S1 ⊢
  rw [hn2] at g4 g5 g6 ⊢
  rw [g6]
  have N1 := Lib.hid hn1; have N2 := Lib.hid hn2; have N3 := Lib.hid g6
  clear hn1 hn2 g6 l1 l2 l3
  have hBW : Below w.heap.size w (w.alloc (.cells #[.int .i64 mod, .slice a1 n1 c1, .slice a2 n2 c2, .slice a3 n2 c3] 25)) := (Below.refl _ _).alloc (Nat.le_refl _) _
  have q1 := new_cell w #[.int .i64 mod, .slice a1 n1 c1, .slice a2 n2 c2, .slice a3 n2 c3] 25 1 _ rfl
  have q2 := new_cell w #[.int .i64 mod, .slice a1 n1 c1, .slice a2 n2 c2, .slice a3 n2 c3] 25 2 _ rfl
  have q3 := new_cell w #[.int .i64 mod, .slice a1 n1 c1, .slice a2 n2 c2, .slice a3 n2 c3] 25 3 _ rfl
  have hWs : w.heap.size < (w.alloc (.cells #[.int .i64 mod, .slice a1 n1 c1, .slice a2 n2 c2, .slice a3 n2 c3] 25)).heap.size := by simp
  have ZZ : Hid (Below w.heap.size w (w.alloc (.cells #[.int .i64 mod, .slice a1 n1 c1, .slice a2 n2 c2, .slice a3 n2 c3] 25)) ∧ _ ∧ _ ∧ _ ∧ _) := ⟨hBW, q1, q2, q3, hWs⟩
  clear hBW q1 q2 q3 hWs
  go_enter Try.func49, Try.ntmps49
  go_wp2_with (first | (go_at_call 52; refine (all06_any init mod _ _ (S1.out.mono (mono_int _) ZZ.out.1)).mono ?_; rintro e w' ⟨rfl, rfl⟩; rw [HI.out]))
  obtain ⟨hBW, q1, q2, q3, hWs⟩ := ZZ.out
  generalize w.alloc (.cells #[.int .i64 mod, .slice a1 n1 c1, .slice a2 n2 c2, .slice a3 n2 c3] 25) = W at *
  have HW := Lib.hid hBW
  clear hBW ZZ
  go_loopw [3] (fun i wr => ∃ k : Nat, i = .int .i64 k ∧ k ≤ n2 ∧ (∀ j, j < regs.length → j < k → threadOk ⟨mod, init, regs, code⟩ j = true) ∧ Below W.heap.size W wr) (fun i _ => n2 - (intOf i).toNat)
  case atStart => exact ⟨0, rfl, by omega, fun j _ h => absurd h (by omega), Below.refl _ _⟩
  case round =>
    obtain ⟨k, rfl, hk, hall, hb⟩ := hrel
    have Hall := Lib.hid hall; have HB := Lib.hid hb
    have hz := hb.size
    have z1 := cell_later hb q1
    have z2 := cell_later hb q2
    have z3 := cell_later hb q3
    clear hall hb
    by_cases hlt : k < n2
    · have hkr : k < regs.length := by have := N2.out; omega
      have hkc : k < code.length := by have := N3.out; omega
      obtain ⟨b, o, rfl, x1, bd1, bd2⟩ := H2.out k hkr
      obtain ⟨b3, o3, vr, rfl, x3, sr⟩ := H3.out k hkc
      clear bd1 bd2
      obtain ⟨x, hx⟩ : ∃ x, regs[k]'hkr = x := ⟨_, rfl⟩
      obtain ⟨row, hrow⟩ : ∃ r, code[k]'hkc = r := ⟨_, rfl⟩
      rw [hx] at x1
      rw [hrow] at sr
      have HT := Lib.hid (show threadOk ⟨mod, init, regs, code⟩ k = (decide (0 ≤ x ∧ x ≤ 6) && rowOk row x n1) by rw [threadOk_of (u := ⟨mod, init, regs, code⟩) hkr hkc, hx, hrow, N1.out])
      clear hx hrow
      have y1 := cell_later HB.out (cell_later HW.out x1)
      have y3 := cell_later HB.out (cell_later HW.out x3)
      have hl4 := sr.len
      obtain ⟨ar, cr, rfl, hr⟩ := instrs_view sr
      have HRW := Lib.hid hr
      clear x1 x3 sr hr
      have Hbad : Hid (threadOk ⟨mod, init, regs, code⟩ k = false → res = false) := fun h => by rw [← HR.out]; exact rightU_bad (u := ⟨mod, init, regs, code⟩) hkr h
      have Hno : Hid (¬ (0 ≤ x ∧ x ≤ 6) ∨ rowOk row x n1 = false → res = false) := fun h => Hbad.out (by
        rw [HT.out]
        rcases h with h | h
        · rw [decide_eq_false h]; rfl
        · rw [h, Bool.and_false])
      have hend : ∀ w', Below wr.heap.size wr w' → Below w.heap.size w w' := fun w' hb => HW.out.trans ((HB.out.trans (hb.mono hz)).mono (by omega))
      have Hend := Lib.hid hend
      clear hend
      obtain ⟨n4, hn4⟩ : ∃ n, row.length = n := ⟨_, rfl⟩
      rw [hn4] at hl4 y3
      have N4 := Lib.hid hn4
      clear hn4
      by_cases c1 : x < 0
      · have HN := Lib.hid (Hno.out (.inl (by omega)))
        go_wp2_with fail
        go_ret
        exact ⟨by rw [HN.out]; rfl, Hend.out _ (Below.refl _ _)⟩
      by_cases c2 : 6 < x
      · have HN := Lib.hid (Hno.out (.inl (by omega)))
        go_wp2_with fail
        go_ret
        exact ⟨by rw [HN.out]; rfl, Hend.out _ (Below.refl _ _)⟩
      by_cases c3 : n4 = 0
      · have HN := Lib.hid (Hno.out (.inr (rowOk_size (by rw [N4.out]; omega))))
        subst c3
        go_wp2_with fail
        go_ret
        exact ⟨by rw [HN.out]; rfl, Hend.out _ (Below.refl _ _)⟩
      by_cases c4 : 1000 < n4
      · have HN := Lib.hid (Hno.out (.inr (rowOk_size (by rw [N4.out]; omega))))
        go_wp2_with fail
        go_ret
        exact ⟨by rw [HN.out]; rfl, Hend.out _ (Below.refl _ _)⟩
      obtain ⟨m, rfl⟩ : ∃ m, n4 = m + 1 := ⟨n4 - 1, by omega⟩
      have hml : m < row.length := by have := N4.out; omega
      obtain ⟨br, orr, ve, vf, rfl, i0, i1, i2, i3, i4, i5, i6, e1, e2, bd⟩ := HRW.out m hml
      clear bd
      obtain ⟨y, hy⟩ : ∃ y, row[m]'hml = y := ⟨_, rfl⟩
      rw [hy] at i0 i1 i2 i5 i6 e1 e2
      have HL : Hid (∀ h : row.length - 1 < row.length, row[row.length - 1]'h = y) := fun h => by rw [← hy]; congr 1; have := N4.out; omega
      clear hy
      have j0 := cell_later HB.out (cell_later HW.out i0); have j1 := cell_later HB.out (cell_later HW.out i1); have j2 := cell_later HB.out (cell_later HW.out i2); have j3 := cell_later HB.out (cell_later HW.out i3)
      have j4 := cell_later HB.out (cell_later HW.out i4); have j5 := cell_later HB.out (cell_later HW.out i5); have j6 := cell_later HB.out (cell_later HW.out i6)
      have E1 := Lib.hid ((e1.mono mono_op HW.out).mono mono_op HB.out); have E2 := Lib.hid ((e2.mono mono_op HW.out).mono mono_op HB.out)
      clear i0 i1 i2 i3 i4 i5 i6 e1 e2 c3
      have d1 : decide (x < 0) = false := decide_eq_false c1
      have d2 : decide (6 < x) = false := decide_eq_false c2
      have hm9 : m ≤ 999 := by omega
      go_wp2_with fail
      refine (done07_any y ve vf _ E1.out E2.out).mono ?_
      rintro e w1 ⟨rfl, hb1⟩
      have HB1 := Lib.hid (HB.out.trans (hb1.mono hz))
      have pp1 := cell_later hb1 z1; have pp2 := cell_later hb1 z2; have pp3 := cell_later hb1 z3; have ppy := cell_later hb1 y1
      have hz1 := hb1.size
      have Hend1 := Lib.hid (Hend.out _ hb1)
      clear hb1 j0 j1 j2 j3 j4 j5 j6 z1 z2 z3 y1 y3
      cases hd : doneOk y
      · have HN := Lib.hid (Hno.out (.inr (rowOk_last (by omega) (by rw [HL.out (by omega)]; exact hd))))
        clear hd
        go_wp2_with fail
        go_ret
        exact ⟨by rw [HN.out]; rfl, Hend1.out⟩
      have HD := Lib.hid hd
      clear hd
      go_wp2_with fail
      have hrlen : row.length = m + 1 := N4.out
      have HRL := Lib.hid hrlen
      clear hrlen hml
      go_loopw [5] (fun i wq => ∃ t : Nat, i = .int .i64 t ∧ t ≤ m ∧ (∀ j (h : j < row.length), j < t → instrOk x n1 row.length row[j] = true) ∧ Below w1.heap.size w1 wq) (fun i _ => m - (intOf i).toNat)
      case atStart => exact ⟨0, rfl, by omega, fun j _ h => absurd h (by omega), Below.refl _ _⟩
      case round =>
        obtain ⟨t, rfl, ht, halli, hbi⟩ := hrel
        have Halli := Lib.hid halli; have HBI := Lib.hid hbi
        have hzi := hbi.size
        have v1 := cell_later hbi pp1; have v2 := cell_later hbi pp2; have v3 := cell_later hbi pp3; have vy := cell_later hbi ppy
        clear halli hbi
        by_cases hti : t < m
        · have htl : t < row.length := by have := HRL.out; omega
          obtain ⟨br2, or2, ve2, vf2, heq, i0, i1, i2, i3, i4, i5, i6, e1, e2, bd⟩ := HRW.out t htl
          simp only [Option.some.injEq, Addr.mk.injEq, and_true] at heq
          obtain ⟨rfl, rfl⟩ := heq
          clear bd
          obtain ⟨yy, hyy⟩ : ∃ yy, row[t]'htl = yy := ⟨_, rfl⟩
          rw [hyy] at i0 i1 i2 i5 i6 e1 e2
          have HY := Lib.hid hyy; clear hyy
          obtain ⟨op, reg, loc, le, lf, ne, goal⟩ := yy
          dsimp only at i0 i1 i2 i5 i6 e1 e2
          have j0 := cell_later HBI.out (cell_later HB1.out (cell_later HW.out i0)); have j1 := cell_later HBI.out (cell_later HB1.out (cell_later HW.out i1)); have j2 := cell_later HBI.out (cell_later HB1.out (cell_later HW.out i2)); have j3 := cell_later HBI.out (cell_later HB1.out (cell_later HW.out i3))
          have j4 := cell_later HBI.out (cell_later HB1.out (cell_later HW.out i4)); have j5 := cell_later HBI.out (cell_later HB1.out (cell_later HW.out i5)); have j6 := cell_later HBI.out (cell_later HB1.out (cell_later HW.out i6))
          have F1 := Lib.hid (((e1.mono mono_op HW.out).mono mono_op HB1.out).mono mono_op HBI.out); have F2 := Lib.hid (((e2.mono mono_op HW.out).mono mono_op HB1.out).mono mono_op HBI.out)
          clear i0 i1 i2 i3 i4 i5 i6 e1 e2
          have f1 := Later.cell v1; have f2 := Later.cell v2; have fy := Later.cell vy
          have g0 := Later.cell j0; have g1 := Later.cell j1; have g2 := Later.cell j2; have g3 := Later.cell j3; have g4 := Later.cell j4; have g5 := Later.cell j5; have g6 := Later.cell j6
          go_wp2_with fail
          refine wp_region_later (by kernel_rfl) (by kernel_rfl) ?_
          repeat (go_big_quiet_step ((go_at_call 54; exact Calls.later (one07_any op reg loc le lf ne goal ve2 vf2 x n1 ((m : Int) + 1) _ (F1.out.mono mono_op (Later.below _)) (F2.out.mono mono_op (Later.below _))) (fun _ _ h => h))))
          refine wpQuiet_nil ?_
          rintro w4 ⟨⟨w5, hb5⟩, rfl⟩
          clear f1 f2 fy g0 g1 g2 g3 g4 g5 g6 j0 j1 j2 j3 j4 j5 j6 v1 v2 v3 vy
          have HB5 := Lib.hid (HBI.out.trans (hb5.mono hzi))
          clear hb5
          cases hok : instrOk x n1 ((m : Int) + 1) ⟨op, reg, loc, le, lf, ne, goal⟩
          · have HN := Lib.hid (Hno.out (.inr (rowOk_bad (k := t) (by have := HRL.out; omega) (by rw [HY.out, HRL.out]; exact hok))))
            clear hok
            go_wp2_with fail
            go_ret
            exact ⟨by rw [HN.out]; rfl, Hend1.out.trans (HB5.out.mono (by have := Hend1.out.size; omega))⟩
          · have HO := Lib.hid hok
            clear hok
            go_wp2_with fail
            go_roundw
            case rel => exact ⟨t + 1, by go_num, by omega, fun j h2 h3 => by
              rcases Nat.lt_or_ge j t with h | h
              · exact Halli.out j h2 h
              · obtain rfl : j = t := by omega
                rw [HY.out, HRL.out]; exact HO.out, HB5.out⟩
            case measure => simp [intOf]; omega
        · have HO := Lib.hid (show threadOk ⟨mod, init, regs, code⟩ k = true by
            rw [HT.out, decide_eq_true (by omega), rowOk_good (by have := HRL.out; omega) (by have := HRL.out; omega) (by rw [HL.out (by have := HRL.out; omega)]; exact HD.out) (fun j hj => Halli.out j (by omega) (by have := HRL.out; omega))]
            rfl)
          clear v1 v2 v3 vy
          go_wp2_with fail
          go_roundw
          case rel => exact ⟨k + 1, by go_num, by omega, fun j h2 h3 => by
            rcases Nat.lt_or_ge j k with h | h
            · exact Hall.out j h2 h
            · obtain rfl : j = k := by omega
              exact HO.out, HB1.out.trans (HBI.out.mono (by omega))⟩
          case measure => simp [intOf]; omega
    · have HG := Lib.hid (show res = true by rw [← HR.out]; exact rightU_good (u := ⟨mod, init, regs, code⟩) HH.out HI.out (fun j hj => Hall.out j hj (by have := N2.out; dsimp only at hj; omega)))
      go_wp2_with fail
      go_ret
      exact ⟨by rw [HG.out]; rfl, HW.out.trans (HB.out.mono (by omega))⟩

theorem right07_any (u : UnitS) (v : Value) (w : World) (hv : UnitV w v u) : Calls Try.prog 49 #[v] w (BoolBelow (rightU u) w) := by
  cases hh : headOk u
  · rw [rightU_head hh]; exact right07_head u v w hv (.inl hh)
  · cases hi : allIn u.init u.mod
    · rw [rightU_init hi]; exact right07_head u v w hv (.inr hi)
    · exact right07_main u v w hv hh hi

end Go.Proofs.Ytmaklniljnbokaa
end

section
namespace Go.Proofs.Ytmaklniljnbokaa
open Go.RowKit
set_option linter.unusedVariables false
set_option linter.unusedSimpArgs false

theorem lightU_head {u : UnitS} (h : ¬ (u.init.length ≤ 20 ∧ u.regs.length ≤ 20 ∧ u.code.length ≤ 8)) : lightU u = false := by simp only [lightU, decide_eq_false h, Bool.false_and]
theorem lightU_bad {u : UnitS} {k : Nat} (hk : k < u.code.length) (h : lightRow u.code[k] = false) : lightU u = false := by
  have : u.code.all lightRow = false := by
    rw [Bool.eq_false_iff]; intro e; rw [List.all_eq_true] at e
    have := e _ (List.getElem_mem hk); rw [h] at this; simp at this
  simp only [lightU, this, Bool.and_false]
theorem lightU_good {u : UnitS} (h : u.init.length ≤ 20 ∧ u.regs.length ≤ 20 ∧ u.code.length ≤ 8) (h2 : ∀ k (hk : k < u.code.length), lightRow u.code[k] = true) : lightU u = true := by
  have : u.code.all lightRow = true := by
    rw [List.all_eq_true]; intro x hx; obtain ⟨k, hk, rfl⟩ := List.getElem_of_mem hx; exact h2 k hk
  simp only [lightU, this, decide_eq_true h, Bool.and_self]
theorem lightRow_size {r : List InstrS} (h : 200 < r.length) : lightRow r = false := by simp only [lightRow, decide_eq_false (show ¬ r.length ≤ 200 by omega), Bool.false_and]
theorem lightRow_bad {r : List InstrS} {k : Nat} (hk : k < r.length) (h : ¬ (r[k].e.length ≤ 300 ∧ r[k].f.length ≤ 300)) : lightRow r = false := by
  have : (r.all fun x => decide (x.e.length ≤ 300 ∧ x.f.length ≤ 300)) = false := by
    rw [Bool.eq_false_iff]; intro e; rw [List.all_eq_true] at e
    have := e _ (List.getElem_mem hk); exact h (of_decide_eq_true this)
  simp only [lightRow, this, Bool.and_false]
theorem lightRow_good {r : List InstrS} (h : r.length ≤ 200) (h2 : ∀ k (hk : k < r.length), r[k].e.length ≤ 300 ∧ r[k].f.length ≤ 300) : lightRow r = true := by
  have : (r.all fun x => decide (x.e.length ≤ 300 ∧ x.f.length ≤ 300)) = true := by
    rw [List.all_eq_true]; intro x hx; obtain ⟨k, hk, rfl⟩ := List.getElem_of_mem hx; exact decide_eq_true (h2 k hk)
  simp only [lightRow, this, decide_eq_true h, Bool.and_self]

set_option maxRecDepth 100000 in
set_option maxHeartbeats 4000000 in
theorem light07_any (u : UnitS) (v : Value) (w : World) (hv : UnitV w v u) : Calls Try.prog 12 #[v] w (BoolBelow (lightU u) w) := by
  obtain ⟨vi, vr, vc, rfl, s1, s2, s3, m1, m2⟩ := hv
  have l1 := s1.len; have l2 := s2.len; have l3 := s3.len
  obtain ⟨a1, c1, rfl, h1⟩ := ints_view s1
  obtain ⟨a2, c2, rfl, h2⟩ := ints_view s2
  obtain ⟨a3, c3, rfl, h3⟩ := slices_view s3
  have H3 := Lib.hid h3
  clear s1 s2 s3 h1 h2 h3
  obtain ⟨res, hres⟩ : ∃ r, lightU u = r := ⟨_, rfl⟩
  have HR := Lib.hid hres
  rw [hres]
  clear hres
  obtain ⟨mod, init, regs, code⟩ := u
  dsimp only at *
  obtain ⟨n1, hn1⟩ : ∃ n, init.length = n := ⟨_, rfl⟩
  obtain ⟨n2, hn2⟩ : ∃ n, regs.length = n := ⟨_, rfl⟩
  obtain ⟨n3, hn3⟩ : ∃ n, code.length = n := ⟨_, rfl⟩
  rw [hn1] at l1 ⊢; rw [hn2] at l2 ⊢; rw [hn3] at l3 ⊢
  have N1 := Lib.hid hn1; have N2 := Lib.hid hn2; have N3 := Lib.hid hn3
  clear hn1 hn2 hn3
  have HA := Lib.hid ((Below.refl w.heap.size w).alloc (Nat.le_refl _) (.cells #[.int .i64 mod, .slice a1 n1 c1, .slice a2 n2 c2, .slice a3 n3 c3] 25))
  by_cases hbig : ¬ (n1 ≤ 20 ∧ n2 ≤ 20 ∧ n3 ≤ 8)
  · have HN := Lib.hid (show res = false by rw [← HR.out]; exact lightU_head (u := ⟨mod, init, regs, code⟩) (by rw [← N1.out, ← N2.out, ← N3.out] at hbig; exact hbig))
    have HH : Hid (n1 ≤ 20 → n2 ≤ 20 → n3 ≤ 8 → False) := fun h1 h2 h3 => hbig ⟨h1, h2, h3⟩
    rw [HN.out]
    clear hbig
    go_enter Try.func12, Try.ntmps12
    go_wp2_with fail
    all_goals
      first
      | (go_ret; exact ⟨rfl, HA.out⟩)
      | (exfalso; exact HH.out (by omega) (by omega) (by omega))
  · obtain ⟨g1, g2, g3⟩ := Decidable.not_not.1 hbig
    clear hbig
    go_enter Try.func12, Try.ntmps12
    go_wp2_with fail
    have q3 := new_cell w #[.int .i64 mod, .slice a1 n1 c1, .slice a2 n2 c2, .slice a3 n3 c3] 25 3 _ rfl
    generalize w.alloc (.cells #[.int .i64 mod, .slice a1 n1 c1, .slice a2 n2 c2, .slice a3 n3 c3] 25) = W at *
    go_loop [3] (fun i => ∃ k : Nat, i = .int .i64 k ∧ k ≤ n3 ∧ ∀ j (h : j < code.length), j < k → lightRow code[j] = true) (fun i => n3 - (intOf i).toNat)
    case atStart => exact ⟨0, rfl, by omega, fun j _ h => absurd h (by omega)⟩
    case round =>
      obtain ⟨k, rfl, hk, hall⟩ := hrel
      have Hall := Lib.hid hall; clear hall
      by_cases hlt : k < n3
      · have hkc : k < code.length := by have := N3.out; omega
        obtain ⟨b3, o3, vr, rfl, x3, sr⟩ := H3.out k hkc
        obtain ⟨row, hrow⟩ : ∃ r, code[k]'hkc = r := ⟨_, rfl⟩
        rw [hrow] at sr
        have HROW := Lib.hid hrow
        clear hrow
        have y3 := cell_later HA.out x3
        have hl4 := sr.len
        obtain ⟨ar, cr, rfl, hr⟩ := instrs_view sr
        have HRW := Lib.hid hr
        clear x3 sr hr
        obtain ⟨n4, hn4⟩ : ∃ n, row.length = n := ⟨_, rfl⟩
        rw [hn4] at hl4 y3
        have N4 := Lib.hid hn4
        clear hn4
        have Hbad : Hid (lightRow row = false → res = false) := fun h => by rw [← HR.out]; exact lightU_bad (u := ⟨mod, init, regs, code⟩) hkc (by show lightRow (code[k]'hkc) = false; rw [HROW.out]; exact h)
        by_cases c4 : 200 < n4
        · have HN := Lib.hid (Hbad.out (lightRow_size (by rw [N4.out]; exact c4)))
          go_wp2_with fail
          go_ret
          exact ⟨by rw [HN.out]; rfl, HA.out⟩
        · go_wp2_with fail
          go_loop [4] (fun i => ∃ t : Nat, i = .int .i64 t ∧ t ≤ n4 ∧ ∀ j (h : j < row.length), j < t → row[j].e.length ≤ 300 ∧ row[j].f.length ≤ 300) (fun i => n4 - (intOf i).toNat)
          case atStart => exact ⟨0, rfl, by omega, fun j _ h => absurd h (by omega)⟩
          case round =>
            obtain ⟨t, rfl, ht, halli⟩ := hrel
            have Halli := Lib.hid halli; clear halli
            by_cases hti : t < n4
            · have htl : t < row.length := by have := N4.out; omega
              obtain ⟨br2, or2, ve2, vf2, rfl, i0, i1, i2, i3, i4, i5, i6, e1, e2, bd⟩ := HRW.out t htl
              obtain ⟨yy, hyy⟩ : ∃ yy, row[t]'htl = yy := ⟨_, rfl⟩
              rw [hyy] at e1 e2
              have HY := Lib.hid hyy
              clear hyy bd i0 i1 i2 i5 i6
              have k1 := e1.len; have k2 := e2.len
              obtain ⟨ae, ce, rfl, _⟩ := ops_view e1
              obtain ⟨af, cf, rfl, _⟩ := ops_view e2
              have j3 := cell_later HA.out i3; have j4 := cell_later HA.out i4
              clear e1 e2 i3 i4
              obtain ⟨p1, hp1⟩ : ∃ n, yy.e.length = n := ⟨_, rfl⟩
              obtain ⟨p2, hp2⟩ : ∃ n, yy.f.length = n := ⟨_, rfl⟩
              rw [hp1] at j3 k1
              rw [hp2] at j4 k2
              have P1 := Lib.hid hp1; have P2 := Lib.hid hp2
              clear hp1 hp2
              by_cases d1 : 300 < p1
              · have HN := Lib.hid (Hbad.out (lightRow_bad htl (by rw [HY.out, P1.out, P2.out]; omega)))
                go_wp2_with fail
                go_ret
                exact ⟨by rw [HN.out]; rfl, HA.out⟩
              · by_cases d2 : 300 < p2
                · have HN := Lib.hid (Hbad.out (lightRow_bad htl (by rw [HY.out, P1.out, P2.out]; omega)))
                  go_wp2_with fail
                  go_ret
                  exact ⟨by rw [HN.out]; rfl, HA.out⟩
                · go_wp2_with fail
                  go_round
                  case rel => exact ⟨t + 1, by go_num, by omega, fun j h2 h3 => by
                    rcases Nat.lt_or_ge j t with h | h
                    · exact Halli.out j h2 h
                    · obtain rfl : j = t := by omega
                      rw [HY.out, P1.out, P2.out]; omega⟩
                  case measure => simp [intOf]; omega
            · have HG := Lib.hid (show lightRow row = true from lightRow_good (by rw [N4.out]; omega) (fun j hj => Halli.out j hj (by have := N4.out; omega)))
              go_wp2_with fail
              go_round
              case rel => exact ⟨k + 1, by go_num, by omega, fun j h2 h3 => by
                rcases Nat.lt_or_ge j k with h | h
                · exact Hall.out j h2 h
                · obtain rfl : j = k := by omega
                  rw [HROW.out]; exact HG.out⟩
              case measure => simp [intOf]; omega
      · have HG := Lib.hid (show res = true by rw [← HR.out]; exact lightU_good (u := ⟨mod, init, regs, code⟩) (by show init.length ≤ 20 ∧ regs.length ≤ 20 ∧ code.length ≤ 8; rw [N1.out, N2.out, N3.out]; exact ⟨g1, g2, g3⟩) (fun j hj => Hall.out j hj (by have := N3.out; dsimp only at hj; omega)))
        go_wp2_with fail
        go_ret
        exact ⟨by rw [HG.out]; rfl, HA.out⟩

end Go.Proofs.Ytmaklniljnbokaa
end

section
namespace Go.Proofs.Ytmaklniljnbokaa
set_option linter.unusedVariables false
set_option maxRecDepth 100000
noncomputable def extM : ExtT := [
  (51, tellK aU rightU),
  (1000000, fun _ => none)]
noncomputable def XM : Ext := extOf extM
theorem sound_noneM {P : Program} {g : FuncId} : SoundK P g (fun _ => none) := by intro args v h; cases h
theorem extM_sound : ∀ p ∈ extM, SoundK Try.prog p.1 p.2 := by
  unfold extM
  refine List.forall_mem_cons.2 ⟨sound_tell dec_unitV (fun x v w h => (lowRight_any x v w h).mono fun _ _ h => h), ?_⟩
  exact List.forall_mem_cons.2 ⟨sound_noneM, fun _ h => by cases h⟩
theorem XM_sound : SoundExt Try.prog XM := sound_extOf extM_sound
theorem callN_extM {P : Program} {H : Hints} {X : Ext} {n : Nat} {f : FuncId} {g : List AV → Option AV} {args : List AV} {v : AV} (hx : X f = some g) (h : g args = some v) : callN P H X (n + 1) f args [] = some (v, []) := by
  simp only [callN, callS, hx, h]
end Go.Proofs.Ytmaklniljnbokaa
end

section
namespace Go.Proofs.Ytmaklniljnbokaa
open Go.RowKit
set_option linter.unusedVariables false
set_option linter.unusedSimpArgs false
set_option maxRecDepth 100000

/-- A number in digits. -/
def digC (n : Int) : UInt8 := (48 + n).toNat.toUInt8
def decF : Nat → Int → List UInt8
  | 0, _ => []
  | k + 1, n => if n < 10 then [digC n] else decF k (n / 10) ++ [digC (n % 10)]
def decL (n : Int) : List UInt8 := decF (n.toNat + 1) n

inductive Agt where
  | thr (t : Int)
  | fl (t loc : Int)
def Agt.cell : Agt → List AV
  | .thr t => [.ifc 98 (.int .i64 t)]
  | .fl t l => [.ifc 100 (.agg [.int .i64 t, .int .i64 l])]
def Agt.name : Agt → List UInt8
  | .thr t => 116 :: decL t
  | .fl t l => if 0 ≤ l then 102 :: decL t ++ 46 :: decL l else 102 :: decL t
def thrs (k : Nat) : List Agt := (List.range k).map fun (t : Nat) => .thr t
def fls2 (k : Nat) : List Agt := (List.range k).map fun (t : Nat) => .fl t (-1)
def flsT (t k : Nat) : List Agt := (List.range k).map fun (l : Nat) => .fl t l
def fls3 (k m : Nat) : List Agt := (List.range k).flatMap fun t => flsT t m
def agentsL (u : UnitS) (model : Int) : List Agt :=
  if rightU u = true ∧ 1 ≤ model ∧ model ≤ 3 then thrs u.regs.length ++ (if model = 2 then fls2 u.regs.length else if model = 3 then fls3 u.regs.length u.init.length else []) else []

theorem thrs_succ (k : Nat) : thrs (k + 1) = thrs k ++ [.thr k] := by simp [thrs, List.range_succ]
theorem fls2_succ (k : Nat) : fls2 (k + 1) = fls2 k ++ [.fl k (-1)] := by simp [fls2, List.range_succ]
theorem flsT_succ (t k : Nat) : flsT t (k + 1) = flsT t k ++ [.fl t k] := by simp [flsT, List.range_succ]
theorem fls3_succ (k m : Nat) : fls3 (k + 1) m = fls3 k m ++ flsT k m := by simp [fls3, List.range_succ]

/-- The interpreter's steps: what the tests' facts decide. -/
theorem wkp {α : Type} {c : Bool} {a b r : α} (h : a = r) (hc : c = true := by (first | (with_reducible assumption) | omega | (simp only [Bool.and_eq_true, Bool.or_eq_true, Bool.not_eq_true', Bool.and_eq_false_imp, Bool.or_eq_false_iff, decide_eq_true_eq, decide_eq_false_iff_not, beq_iff_eq, bne_iff_ne, beq_eq_false_iff_ne, bne_eq_false_iff_eq, ne_eq, List.length_map, List.length_range, List.length_replicate, List.length_append, List.length_cons, List.length_nil, List.length_take, Int.toNat_natCast]; omega) | (with_reducible rfl))) : (bif c then a else b) = r := bif_pos hc h
theorem wkn {α : Type} {c : Bool} {a b r : α} (h : b = r) (hc : c = false := by (first | (with_reducible assumption) | omega | (simp only [Bool.and_eq_true, Bool.or_eq_true, Bool.not_eq_true', Bool.and_eq_false_imp, Bool.or_eq_false_iff, decide_eq_true_eq, decide_eq_false_iff_not, beq_iff_eq, bne_iff_ne, beq_eq_false_iff_ne, bne_eq_false_iff_eq, ne_eq, List.length_map, List.length_range, List.length_replicate, List.length_append, List.length_cons, List.length_nil, List.length_take, Int.toNat_natCast]; omega) | (with_reducible rfl))) : (bif c then a else b) = r := bif_neg hc h

theorem thrs_len (k : Nat) : (thrs k).length = k := by simp [thrs]
theorem fls2_len (k : Nat) : (fls2 k).length = k := by simp [fls2]
theorem flsT_len (t k : Nat) : (flsT t k).length = k := by simp [flsT]
theorem fls3_len (k m : Nat) : (fls3 k m).length = k * m := by
  induction k with
  | zero => simp [fls3]
  | succ k ih => rw [fls3_succ, List.length_append, ih, flsT_len, Nat.succ_mul]

set_option maxHeartbeats 4000000 in
theorem agents_abs {X : Ext} (hX : X 48 = none) (hR : X 51 = some (tellK aU rightU)) (u : UnitS) (m : Int) (n : Nat) (hn : 100 < n) : callN Try.prog HH X n 48 [aU u, .int .i64 m] [] = some (.sl 1 ((agentsL u m).map Agt.cell), []) := by
  have hb17 : Try.prog.bytesOf 88 + 1 = 17 := by kernel_rfl
  obtain ⟨n, rfl⟩ : ∃ k, n = k + 1 := ⟨n - 1, by omega⟩
  refine callN_eq' Try.func48 hX rfl rfl (by show 2 ≤ 65; decide) ?_
  intro call hc
  have hcall : call false 51 [aU u] [] = some (.bool (rightU u), []) := (hc _ _ _).trans (by obtain ⟨n1, hn1⟩ : ∃ k, n = k + 1 := ⟨n - 1, by omega⟩; rw [hn1]; exact callN_extM hR (tellK_eq (enc := aU) aU_inj u))
  conv => lhs; whnf
  simp only [aU, cellsU] at hcall
  simp only [hcall]
  conv => lhs; whnf
  cases hu : rightU u with
  | false =>
    have hL : agentsL u m = [] := by simp [agentsL, hu]
    rw [hL]
    rfl
  | true =>
    by_cases c1 : m < 1
    · have hL : agentsL u m = [] := by rw [agentsL, if_neg (by omega)]
      rw [hL]
      conv => lhs; whnf
      repeat (first | (refine wkp ?_; conv => lhs; whnf) | (refine wkn ?_; conv => lhs; whnf) | (simp only [Int.toNat_natCast, hc]; conv => lhs; whnf))
      refine some_pair ?_ ?_
      · kernel_rfl
      · rfl
    by_cases c2 : 3 < m
    · have hL : agentsL u m = [] := by rw [agentsL, if_neg (by omega)]
      rw [hL]
      conv => lhs; whnf
      repeat (first | (refine wkp ?_; conv => lhs; whnf) | (refine wkn ?_; conv => lhs; whnf) | (simp only [Int.toNat_natCast, hc]; conv => lhs; whnf))
      refine some_pair ?_ ?_
      · kernel_rfl
      · rfl
    conv => lhs; whnf
    repeat (first | (refine wkp ?_; conv => lhs; whnf) | (refine wkn ?_; conv => lhs; whnf) | (simp only [Int.toNat_natCast, hc]; conv => lhs; whnf))
    have ⟨l2, l3, l4⟩ : 1 ≤ u.regs.length ∧ u.regs.length ≤ 4 ∧ u.init.length ≤ 6 := by
      simp only [rightU, headOk, Bool.and_eq_true, decide_eq_true_eq] at hu
      omega
    refine rounds_ind (σ := Nat) (fun k => k ≤ u.regs.length) (fun k => stOf 65 [(1, .int .i64 m), (2, .ptr 0 0), (5, .row 1 (thrs k).length), (22, .int .i64 ((u.regs.map encI).length : Nat)), (23, .int .i64 k)]) (fun k => [.var 25 (cellsU u), .row 88 1 ((thrs k).map Agt.cell)]) (fun k => u.regs.length - k) ?_ n 0 _ _ (by omega) (by omega) rfl rfl
    intro k q hk ih
    have tl := thrs_len k
    by_cases hlt : k < u.regs.length
    · have e2 := wrap_succ k (by omega)
      conv => lhs; whnf
      repeat (first | (refine wkp ?_; conv => lhs; whnf) | (refine wkn ?_; conv => lhs; whnf) | (simp only [Int.toNat_natCast, hc]; conv => lhs; whnf))
      refine bif_pos (app_row (a := (thrs k).length) (k := 1) (B := 17) (decide_eq_true (by rw [tl]; omega)) rfl (List.length_map _) rfl hb17) ?_
      conv => lhs; whnf
      repeat (first | (refine wkp ?_; conv => lhs; whnf) | (refine wkn ?_; conv => lhs; whnf) | (simp only [Int.toNat_natCast, hc]; conv => lhs; whnf))
      refine ih (k + 1) _ _ (by omega) (by omega) ?_ ?_
      · rw [e2, show (thrs (k + 1)).length = (thrs k).length + 1 by rw [thrs_len, thrs_len]]
        simp only [List.length_map]
        rfl
      · rw [thrs_succ, List.map_append]; rfl
    have hkr : k = u.regs.length := by omega
    subst hkr
    conv => lhs; whnf
    repeat (first | (refine wkp ?_; conv => lhs; whnf) | (refine wkn ?_; conv => lhs; whnf) | (simp only [Int.toNat_natCast, hc]; conv => lhs; whnf))
    have hhp : ∀ l : List Agt, agentsL u m = l → ((agentsL u m).map Agt.cell).length = l.length := fun l h => by rw [h, List.length_map]
    by_cases c3 : m = 2
    · have hL : agentsL u m = thrs u.regs.length ++ fls2 u.regs.length := by rw [agentsL, if_pos ⟨hu, by omega, by omega⟩, if_pos c3]
      rw [hL]
      refine rounds_ind (σ := Nat) (fun k => k ≤ u.regs.length) (fun k => stOf 65 [(1, .int .i64 m), (2, .ptr 0 0), (5, .row 1 (thrs u.regs.length ++ fls2 k).length), (34, .int .i64 ((u.regs.map encI).length : Nat)), (35, .int .i64 k)]) (fun k => [.var 25 (cellsU u), .row 88 1 ((thrs u.regs.length ++ fls2 k).map Agt.cell)]) (fun k => u.regs.length - k) ?_ n 0 _ _ (by omega) (by omega) (by simp [fls2]; rfl) (by simp [fls2]; rfl)
      intro k q hk ih
      have tl2 : (thrs u.regs.length ++ fls2 k).length = u.regs.length + k := by rw [List.length_append, tl, fls2_len]
      by_cases hlt : k < u.regs.length
      · have e2 := wrap_succ k (by omega)
        conv => lhs; whnf
        repeat (first | (refine wkp ?_; conv => lhs; whnf) | (refine wkn ?_; conv => lhs; whnf) | (simp only [Int.toNat_natCast, hc]; conv => lhs; whnf))
        refine bif_pos (app_row (a := (thrs u.regs.length ++ fls2 k).length) (k := 1) (B := 17) (decide_eq_true (by rw [tl2]; omega)) rfl (List.length_map _) rfl hb17) ?_
        conv => lhs; whnf
        repeat (first | (refine wkp ?_; conv => lhs; whnf) | (refine wkn ?_; conv => lhs; whnf) | (simp only [Int.toNat_natCast, hc]; conv => lhs; whnf))
        refine ih (k + 1) _ _ (by omega) (by omega) ?_ ?_
        · rw [e2, show (thrs u.regs.length ++ fls2 (k + 1)).length = (thrs u.regs.length ++ fls2 k).length + 1 by simp only [List.length_append, fls2_len]; omega]
          simp only [List.length_map]
          rfl
        · rw [show (thrs u.regs.length ++ fls2 (k + 1)).map Agt.cell = (thrs u.regs.length ++ fls2 k).map Agt.cell ++ [[.ifc 100 (.agg [.int .i64 k, .int .i64 (-1)])]] by rw [fls2_succ, ← List.append_assoc, List.map_append (l₁ := thrs u.regs.length ++ fls2 k)]; rfl]
          rfl
      have hkr : k = u.regs.length := by omega
      subst hkr
      conv => lhs; whnf
      repeat (first | (refine wkp ?_; conv => lhs; whnf) | (refine wkn ?_; conv => lhs; whnf) | (simp only [Int.toNat_natCast, hc]; conv => lhs; whnf))
      refine some_pair ?_ ?_
      · show AV.sl 1 (List.take (thrs u.regs.length ++ fls2 u.regs.length).length (List.map Agt.cell (thrs u.regs.length ++ fls2 u.regs.length))) = _
        rw [take_map_len]
      · rfl
    by_cases c4 : m = 3
    · have hL : agentsL u m = thrs u.regs.length ++ fls3 u.regs.length u.init.length := by rw [agentsL, if_pos ⟨hu, by omega, by omega⟩, if_neg c3, if_pos c4]
      rw [hL]
      refine rounds_ind (σ := Nat) (fun k => k ≤ u.regs.length) (fun k => stOf 65 [(1, .int .i64 m), (2, .ptr 0 0), (5, .row 1 (thrs u.regs.length ++ fls3 k u.init.length).length), (34, .int .i64 ((u.regs.map encI).length : Nat)), (35, .int .i64 k)]) (fun k => [.var 25 (cellsU u), .row 88 1 ((thrs u.regs.length ++ fls3 k u.init.length).map Agt.cell)]) (fun k => u.regs.length - k) ?_ n 0 _ _ (by omega) (by omega) (by simp [fls3]; rfl) (by simp [fls3]; rfl)
      intro k q hk ih
      by_cases hlt : k < u.regs.length
      · have e2 := wrap_succ k (by omega)
        conv => lhs; whnf
        repeat (first | (refine wkp ?_; conv => lhs; whnf) | (refine wkn ?_; conv => lhs; whnf) | (simp only [Int.toNat_natCast, hc]; conv => lhs; whnf))
        refine rounds_ind (σ := Nat) (fun j => j ≤ u.init.length) (fun j => stOf 65 [(1, .int .i64 m), (2, .ptr 0 0), (5, .row 1 (thrs u.regs.length ++ fls3 k u.init.length ++ flsT k j).length), (7, .int .i64 k), (34, .int .i64 ((u.regs.map encI).length : Nat)), (35, .int .i64 k), (51, .int .i64 ((u.init.map encI).length : Nat)), (52, .int .i64 j)]) (fun j => [.var 25 (cellsU u), .row 88 1 ((thrs u.regs.length ++ fls3 k u.init.length ++ flsT k j).map Agt.cell)]) (fun j => u.init.length - j) ?_ n 0 _ _ (by omega) (by omega) (by simp [flsT]; rfl) (by simp [flsT]; rfl)
        intro j q' hj ih'
        have tl2 : (thrs u.regs.length ++ fls3 k u.init.length ++ flsT k j).length = u.regs.length + k * u.init.length + j := by rw [List.length_append, List.length_append, tl, fls3_len, flsT_len]
        have tb : k * u.init.length ≤ 4 * 6 := Nat.mul_le_mul (by omega) l4
        by_cases hlj : j < u.init.length
        · have e3 := wrap_succ j (by omega)
          conv => lhs; whnf
          repeat (first | (refine wkp ?_; conv => lhs; whnf) | (refine wkn ?_; conv => lhs; whnf) | (simp only [Int.toNat_natCast, hc]; conv => lhs; whnf))
          refine bif_pos (app_row (a := (thrs u.regs.length ++ fls3 k u.init.length ++ flsT k j).length) (k := 1) (B := 17) (decide_eq_true (by rw [tl2]; omega)) rfl (List.length_map _) rfl hb17) ?_
          conv => lhs; whnf
          repeat (first | (refine wkp ?_; conv => lhs; whnf) | (refine wkn ?_; conv => lhs; whnf) | (simp only [Int.toNat_natCast, hc]; conv => lhs; whnf))
          refine ih' (j + 1) _ _ (by omega) (by omega) ?_ ?_
          · rw [e3, show (thrs u.regs.length ++ fls3 k u.init.length ++ flsT k (j + 1)).length = (thrs u.regs.length ++ fls3 k u.init.length ++ flsT k j).length + 1 by simp only [List.length_append, flsT_len]; omega]
            simp only [List.length_map]
            rfl
          · rw [show (thrs u.regs.length ++ fls3 k u.init.length ++ flsT k (j + 1)).map Agt.cell = (thrs u.regs.length ++ fls3 k u.init.length ++ flsT k j).map Agt.cell ++ [[.ifc 100 (.agg [.int .i64 k, .int .i64 j])]] by rw [flsT_succ, ← List.append_assoc, List.map_append (l₁ := thrs u.regs.length ++ fls3 k u.init.length ++ flsT k j)]; rfl]
            rfl
        have hjr : j = u.init.length := by omega
        subst hjr
        conv => lhs; whnf
        repeat (first | (refine wkp ?_; conv => lhs; whnf) | (refine wkn ?_; conv => lhs; whnf) | (simp only [Int.toNat_natCast, hc]; conv => lhs; whnf))
        refine ih (k + 1) _ _ (by omega) (by omega) ?_ ?_
        · rw [e2, fls3_succ, ← List.append_assoc]
          rfl
        · rw [fls3_succ, ← List.append_assoc]
          rfl
      have hkr : k = u.regs.length := by omega
      subst hkr
      conv => lhs; whnf
      repeat (first | (refine wkp ?_; conv => lhs; whnf) | (refine wkn ?_; conv => lhs; whnf) | (simp only [Int.toNat_natCast, hc]; conv => lhs; whnf))
      refine some_pair ?_ ?_
      · show AV.sl 1 (List.take (thrs u.regs.length ++ fls3 u.regs.length u.init.length).length (List.map Agt.cell (thrs u.regs.length ++ fls3 u.regs.length u.init.length))) = _
        rw [take_map_len]
      · rfl
    have hL : agentsL u m = thrs u.regs.length := by rw [agentsL, if_pos ⟨hu, by omega, by omega⟩, if_neg c3, if_neg c4, List.append_nil]
    rw [hL]
    refine rounds_ind (σ := Nat) (fun k => k ≤ u.regs.length) (fun k => stOf 65 [(1, .int .i64 m), (2, .ptr 0 0), (5, .row 1 (thrs u.regs.length).length), (34, .int .i64 ((u.regs.map encI).length : Nat)), (35, .int .i64 k)]) (fun k => [.var 25 (cellsU u), .row 88 1 ((thrs u.regs.length).map Agt.cell)]) (fun k => u.regs.length - k) ?_ n 0 _ _ (by omega) (by omega) rfl rfl
    intro k q hk ih
    by_cases hlt : k < u.regs.length
    · have e2 := wrap_succ k (by omega)
      conv => lhs; whnf
      repeat (first | (refine wkp ?_; conv => lhs; whnf) | (refine wkn ?_; conv => lhs; whnf) | (simp only [Int.toNat_natCast, hc]; conv => lhs; whnf))
      refine ih (k + 1) _ _ (by omega) (by omega) ?_ rfl
      rw [e2]
      rfl
    have hkr : k = u.regs.length := by omega
    subst hkr
    conv => lhs; whnf
    repeat (first | (refine wkp ?_; conv => lhs; whnf) | (refine wkn ?_; conv => lhs; whnf) | (simp only [Int.toNat_natCast, hc]; conv => lhs; whnf))
    refine some_pair ?_ ?_
    · show AV.sl 1 (List.take (thrs u.regs.length).length (List.map Agt.cell (thrs u.regs.length))) = _
      rw [take_map_len]
    · rfl
end Go.Proofs.Ytmaklniljnbokaa
end

section
namespace Go.Proofs.Ytmaklniljnbokaa
open Go.RowKit
set_option linter.unusedVariables false
set_option linter.unusedSimpArgs false
set_option maxRecDepth 100000

theorem decF_more : ∀ (k j : Nat) (n : Int), 0 ≤ n → n.toNat < k → n.toNat < j → decF k n = decF j n
  | 0, _, n, h, h1, _ => by omega
  | _, 0, n, h, _, h2 => by omega
  | k + 1, j + 1, n, h, h1, h2 => by
    simp only [decF]
    split
    · rfl
    · rw [decF_more k j (n / 10) (by omega) (by omega) (by omega)]
theorem decL_lt {n : Int} (h : n < 10) : decL n = [digC n] := by
  unfold decL decF; rw [if_pos h]
theorem decL_ge {n : Int} (h0 : 0 ≤ n) (h : ¬ n < 10) : decL n = decL (n / 10) ++ [digC (n % 10)] := by
  unfold decL
  rw [show decF (n.toNat + 1) n = if n < 10 then [digC n] else decF n.toNat (n / 10) ++ [digC (n % 10)] from rfl, if_neg h]
  rw [decF_more n.toNat ((n / 10).toNat + 1) (n / 10) (by omega) (by omega) (by omega)]

theorem decF_len : ∀ (k : Nat) (n : Int), (decF k n).length ≤ k + 1
  | 0, _ => by simp [decF]
  | k + 1, n => by
    simp only [decF]
    split
    · simp
    · have := decF_len k (n / 10); simp only [List.length_append, List.length_cons, List.length_nil]; omega
theorem decL_len (n : Int) : (decL n).length ≤ n.toNat + 2 := decF_len _ _
theorem dig_byte {n : Int} (h0 : 0 ≤ n) (h : n < 10) : byteOf [AV.int .u8 (IntKind.u8.wrap (IntKind.i64.wrap (48 + n)))] = digC n := by
  obtain ⟨k, rfl⟩ : ∃ k : Nat, n = k := ⟨n.toNat, by omega⟩
  have hk : k < 10 := by omega
  clear h0 h
  revert k
  decide

set_option maxHeartbeats 4000000 in
theorem mdec_abs {X : Ext} (hX : X 99 = none) : ∀ (N : Nat) (n : Int), 0 ≤ n → n ≤ 1000000000000 → n.toNat + 1 < N → callN Try.prog HH X N 99 [.int .i64 n] [] = some (.str (decL n), []) := by
  intro N
  induction N with
  | zero => intro n _ _ h; omega
  | succ N ih =>
    intro n h0 hw hN
    refine callN_eq' Try.func99 hX rfl rfl (by show 1 ≤ 20; decide) ?_
    intro call hc
    conv => lhs; whnf
    by_cases c1 : n < 10
    · rw [decL_lt c1]
      repeat (first | (refine wkp ?_; conv => lhs; whnf) | (refine wkn ?_; conv => lhs; whnf) | (simp only [Int.toNat_natCast, hc]; conv => lhs; whnf))
      refine some_pair ?_ rfl
      show AV.str (List.map byteOf [[AV.int .u8 (IntKind.u8.wrap (IntKind.i64.wrap (48 + n)))]]) = _
      simp only [List.map_cons, List.map_nil, dig_byte h0 c1]
    · have hr := ih (n / 10) (by omega) (by omega) (by omega)
      have e1 : IntKind.i64.wrap (n.tdiv 10) = n / 10 := by rw [Int.tdiv_eq_ediv_of_nonneg h0]; exact wrap64 (by omega)
      have e2 : IntKind.i64.wrap (n.tmod 10) = n % 10 := by rw [Int.tmod_eq_emod_of_nonneg h0]; exact wrap64 (by omega)
      repeat (first | (refine wkp ?_; conv => lhs; whnf) | (refine wkn ?_; conv => lhs; whnf) | (simp only [Int.toNat_natCast, hc]; conv => lhs; whnf))
      simp only [e1, hr]
      conv => lhs; whnf
      have e3 : List.map byteOf [[AV.int .u8 (IntKind.u8.wrap (IntKind.i64.wrap (48 + n.tmod 10)))]] = [digC (n % 10)] := by
        rw [Int.tmod_eq_emod_of_nonneg h0]
        simp only [List.map_cons, List.map_nil, dig_byte (show 0 ≤ n % 10 by omega) (show n % 10 < 10 by omega)]
      have hl := decL_len (n / 10)
      simp only [e3]
      refine bif_pos (by simp only [decide_eq_true_eq, List.length_cons, List.length_nil]; omega) ?_
      conv => lhs; whnf
      rw [decL_ge h0 c1]
      exact some_pair rfl rfl
set_option maxHeartbeats 4000000 in
theorem rpdec_abs {X : Ext} (hX : X 33 = none) : ∀ (N : Nat) (n : Int), 0 ≤ n → n ≤ 1000000000000 → n.toNat + 1 < N → callN Try.prog HH X N 33 [.int .i64 n] [] = some (.str (decL n), []) := by
  intro N
  induction N with
  | zero => intro n _ _ h; omega
  | succ N ih =>
    intro n h0 hw hN
    refine callN_eq' Try.func33 hX rfl rfl (by show 1 ≤ 20; decide) ?_
    intro call hc
    conv => lhs; whnf
    by_cases c1 : n < 10
    · rw [decL_lt c1]
      repeat (first | (refine wkp ?_; conv => lhs; whnf) | (refine wkn ?_; conv => lhs; whnf) | (simp only [Int.toNat_natCast, hc]; conv => lhs; whnf))
      refine some_pair ?_ rfl
      show AV.str (List.map byteOf [[AV.int .u8 (IntKind.u8.wrap (IntKind.i64.wrap (48 + n)))]]) = _
      simp only [List.map_cons, List.map_nil, dig_byte h0 c1]
    · have hr := ih (n / 10) (by omega) (by omega) (by omega)
      have e1 : IntKind.i64.wrap (n.tdiv 10) = n / 10 := by rw [Int.tdiv_eq_ediv_of_nonneg h0]; exact wrap64 (by omega)
      have e2 : IntKind.i64.wrap (n.tmod 10) = n % 10 := by rw [Int.tmod_eq_emod_of_nonneg h0]; exact wrap64 (by omega)
      repeat (first | (refine wkp ?_; conv => lhs; whnf) | (refine wkn ?_; conv => lhs; whnf) | (simp only [Int.toNat_natCast, hc]; conv => lhs; whnf))
      simp only [e1, hr]
      conv => lhs; whnf
      have e3 : List.map byteOf [[AV.int .u8 (IntKind.u8.wrap (IntKind.i64.wrap (48 + n.tmod 10)))]] = [digC (n % 10)] := by
        rw [Int.tmod_eq_emod_of_nonneg h0]
        simp only [List.map_cons, List.map_nil, dig_byte (show 0 ≤ n % 10 by omega) (show n % 10 < 10 by omega)]
      have hl := decL_len (n / 10)
      simp only [e3]
      refine bif_pos (by simp only [decide_eq_true_eq, List.length_cons, List.length_nil]; omega) ?_
      conv => lhs; whnf
      rw [decL_ge h0 c1]
      exact some_pair rfl rfl
set_option maxHeartbeats 4000000 in
theorem tname_abs {X : Ext} (hX : X 98 = none) (hD : X 99 = none) (N : Nat) (t : Int) (h0 : 0 ≤ t) (h1 : t ≤ 1000) (hN : 2000 < N) : callN Try.prog HH X N 98 [.int .i64 t] [] = some (.str (Agt.thr t).name, []) := by
  obtain ⟨N, rfl⟩ : ∃ k, N = k + 1 := ⟨N - 1, by omega⟩
  refine callN_eq' Try.func98 hX rfl rfl (by show 1 ≤ 6; decide) ?_
  intro call hc
  have hd := (hc _ _ _).trans (mdec_abs hD N t h0 (by omega) (by omega))
  have hl := decL_len t
  conv => lhs; whnf
  simp only [hd]
  conv => lhs; whnf
  refine bif_pos (by simp only [decide_eq_true_eq, List.length_cons, List.length_nil]; omega) ?_
  conv => lhs; whnf
  exact some_pair rfl rfl
set_option maxHeartbeats 4000000 in
theorem fname_abs {X : Ext} (hX : X 102 = none) (hD : X 99 = none) (N : Nat) (t l : Int) (h0 : 0 ≤ t) (h1 : t ≤ 1000) (h2 : -1 ≤ l) (h3 : l ≤ 1000) (hN : 2000 < N) : callN Try.prog HH X N 102 [.agg [.int .i64 t, .int .i64 l]] [] = some (.str (Agt.fl t l).name, []) := by
  obtain ⟨N, rfl⟩ : ∃ k, N = k + 1 := ⟨N - 1, by omega⟩
  refine callN_eq' Try.func102 hX rfl rfl (by show 1 ≤ 18; decide) ?_
  intro call hc
  have hd := (hc _ _ _).trans (mdec_abs hD N t h0 (by omega) (by omega))
  have hl := decL_len t
  conv => lhs; whnf
  simp only [hd]
  conv => lhs; whnf
  refine bif_pos (by simp only [decide_eq_true_eq, List.length_cons, List.length_nil]; omega) ?_
  conv => lhs; whnf
  by_cases c : 0 ≤ l
  · have hd2 := (hc _ _ _).trans (mdec_abs hD N l c (by omega) (by omega))
    have hl2 := decL_len l
    refine bif_pos (by simp only [decide_eq_true_eq]; omega) ?_
    conv => lhs; whnf
    simp only [hd2]
    conv => lhs; whnf
    refine bif_pos (by simp only [decide_eq_true_eq, List.length_cons, List.length_nil]; omega) ?_
    conv => lhs; whnf
    refine bif_pos (by simp only [decide_eq_true_eq, List.length_append, List.length_cons, List.length_nil]; omega) ?_
    conv => lhs; whnf
    rw [Agt.name, if_pos c]
    exact some_pair rfl rfl
  · refine bif_neg (by simp only [decide_eq_false_iff_not]; omega) ?_
    conv => lhs; whnf
    rw [Agt.name, if_neg c]
    exact some_pair rfl rfl
end Go.Proofs.Ytmaklniljnbokaa
end

section
namespace Go.Proofs.Ytmaklniljnbokaa
open Go.RowKit
set_option linter.unusedVariables false
set_option linter.unusedSimpArgs false

theorem sim_all {P : Program} (W : World) : Sim P W.heap.size (SAll W) W [] [] := ⟨rfl, Nat.le_refl _, fun _ _ ⟨u, hu⟩ => ⟨u, hu, fun hb => absurd (stay_lt hu) (by omega)⟩, fun id o ho => by simp at ho, fun i j b hi => by simp [blockAt] at hi⟩
end Go.Proofs.Ytmaklniljnbokaa
end

