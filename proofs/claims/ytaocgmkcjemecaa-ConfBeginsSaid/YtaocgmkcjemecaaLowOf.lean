/- The program's lower.of: what kinds of instructions have. Parts of the proofs of the laws of layers 6 to 22. Conditions: none. -/
import Derived.Test.YtaocgmkcjemecaaMapNew
import Derived.Test.YtaocgmkcjemecaaProg
import Derived.Test.YtaocgmkcjemecaaPlainUnit
namespace Go.Proofs.Ytaocgmkcjemecaa
open Go.RowKit
set_option linter.unusedVariables false
set_option linter.unusedSimpArgs false

def needsVal : Option Needs → Value
  | none => .agg #[.bool false, .bool false, .bool false, .bool false, .bool false, .bool false]
  | some n => .agg #[.bool n.reg, .bool n.loc, .bool n.e, .bool n.f, .bool n.ne, .bool n.goal]

def needsRow : Array MapEntry := #[⟨.int .i64 2, .agg #[.bool true, .bool false, .bool true, .bool false, .bool false, .bool false], 0⟩, ⟨.int .i64 3, .agg #[.bool true, .bool true, .bool false, .bool false, .bool false, .bool false], 1⟩, ⟨.int .i64 4, .agg #[.bool false, .bool true, .bool true, .bool false, .bool false, .bool false], 2⟩, ⟨.int .i64 5, .agg #[.bool true, .bool true, .bool true, .bool true, .bool false, .bool false], 3⟩, ⟨.int .i64 6, .agg #[.bool true, .bool true, .bool true, .bool false, .bool false, .bool false], 4⟩, ⟨.int .i64 7, .agg #[.bool true, .bool true, .bool true, .bool false, .bool false, .bool false], 5⟩, ⟨.int .i64 8, .agg #[.bool false, .bool false, .bool false, .bool false, .bool false, .bool false], 6⟩, ⟨.int .i64 9, .agg #[.bool false, .bool true, .bool true, .bool false, .bool true, .bool false], 7⟩, ⟨.int .i64 20, .agg #[.bool false, .bool false, .bool false, .bool false, .bool false, .bool true], 8⟩, ⟨.int .i64 21, .agg #[.bool false, .bool false, .bool true, .bool false, .bool false, .bool true], 9⟩]

theorem needs_find (op : Int) : (∃ i, Instr.findNow (.int .i64) (.int .i64 op) needsRow.toList 0 = some (some (i, needsVal (needsOf op))) ∧ (needsOf op).isSome = true) ∨
    Instr.findNow (.int .i64) (.int .i64 op) needsRow.toList 0 = some none ∧ needsVal (needsOf op) = needsVal none ∧ (needsOf op).isSome = false := by
  by_cases h : op = 2 ∨ op = 3 ∨ op = 4 ∨ op = 5 ∨ op = 6 ∨ op = 7 ∨ op = 8 ∨ op = 9 ∨ op = 20 ∨ op = 21
  · left
    rcases h with rfl | rfl | rfl | rfl | rfl | rfl | rfl | rfl | rfl | rfl
    all_goals exact ⟨_, rfl, rfl⟩
  · right
    have hn : needsOf op = none := by
      simp only [needsOf]
      repeat rw [if_neg (by omega)]
    refine ⟨?_, by rw [hn], by rw [hn]; rfl⟩
    rcases MapKept.findNow_spec (d := .int .i64) (k := .int .i64 op) rfl needsRow.toList 0 (by
      intro x hx
      simp only [needsRow, List.mem_cons, List.not_mem_nil, or_false] at hx
      rcases hx with rfl | rfl | rfl | rfl | rfl | rfl | rfl | rfl | rfl | rfl
      all_goals rfl) with ⟨h1, _⟩ | ⟨j, e, _, h2, h3⟩
    · exact h1
    · exfalso
      have hm := List.mem_of_getElem? h2
      simp only [needsRow, List.mem_cons, List.not_mem_nil, or_false] at hm
      rcases hm with rfl | rfl | rfl | rfl | rfl | rfl | rfl | rfl | rfl | rfl
      all_goals
        simp only [Value.int.injEq, true_and] at h3
        omega

theorem needsVal_bools (n : Option Needs) : ∃ b1 b2 b3 b4 b5 b6 : Bool, needsVal n = .agg #[.bool b1, .bool b2, .bool b3, .bool b4, .bool b5, .bool b6] := by
  cases n
  all_goals exact ⟨_, _, _, _, _, _, rfl⟩

def NeedsPost (op : Int) (w : World) (e : Ending) (w' : World) : Prop := e = .returned (.tuple #[needsVal (needsOf op), .bool (needsOf op).isSome]) ∧ Below w.heap.size w w'

set_option maxRecDepth 100000 in
set_option maxHeartbeats 4000000 in
theorem needs_any (op : Int) (w : World) : Calls Try.prog 108 #[.int .i64 op] w (NeedsPost op w) := by
  go_enter Try.func108, Try.ntmps108
  go_upto_region 1 with (fail)
  go_step
  refine wpList_makeMap rfl _ rfl ?_
  iterate 3 go_step
  refine wpList_insert_new (W := w.alloc _) rfl _ _ _ _ rfl _ _ Try.underlying153 _ Try.underlying3 (w.heap.size + 1) (by simp) ?hm 2 (.agg #[.bool true, .bool false, .bool true, .bool false, .bool false, .bool false]) ?hx ?hv ?hf ?_
  case hm => rfl
  case hx => rfl
  case hv => rfl
  case hf => kernel_rfl
  iterate 3 go_step
  refine wpList_insert_new (W := w.alloc _) rfl _ _ _ _ rfl _ _ Try.underlying153 _ Try.underlying3 (w.heap.size + 1) (by simp) ?hm 3 (.agg #[.bool true, .bool true, .bool false, .bool false, .bool false, .bool false]) ?hx ?hv ?hf ?_
  case hm => rfl
  case hx => rfl
  case hv => rfl
  case hf => kernel_rfl
  iterate 3 go_step
  refine wpList_insert_new (W := w.alloc _) rfl _ _ _ _ rfl _ _ Try.underlying153 _ Try.underlying3 (w.heap.size + 1) (by simp) ?hm 4 (.agg #[.bool false, .bool true, .bool true, .bool false, .bool false, .bool false]) ?hx ?hv ?hf ?_
  case hm => rfl
  case hx => rfl
  case hv => rfl
  case hf => kernel_rfl
  iterate 3 go_step
  refine wpList_insert_new (W := w.alloc _) rfl _ _ _ _ rfl _ _ Try.underlying153 _ Try.underlying3 (w.heap.size + 1) (by simp) ?hm 5 (.agg #[.bool true, .bool true, .bool true, .bool true, .bool false, .bool false]) ?hx ?hv ?hf ?_
  case hm => rfl
  case hx => rfl
  case hv => rfl
  case hf => kernel_rfl
  iterate 3 go_step
  refine wpList_insert_new (W := w.alloc _) rfl _ _ _ _ rfl _ _ Try.underlying153 _ Try.underlying3 (w.heap.size + 1) (by simp) ?hm 6 (.agg #[.bool true, .bool true, .bool true, .bool false, .bool false, .bool false]) ?hx ?hv ?hf ?_
  case hm => rfl
  case hx => rfl
  case hv => rfl
  case hf => kernel_rfl
  iterate 3 go_step
  refine wpList_insert_new (W := w.alloc _) rfl _ _ _ _ rfl _ _ Try.underlying153 _ Try.underlying3 (w.heap.size + 1) (by simp) ?hm 7 (.agg #[.bool true, .bool true, .bool true, .bool false, .bool false, .bool false]) ?hx ?hv ?hf ?_
  case hm => rfl
  case hx => rfl
  case hv => rfl
  case hf => kernel_rfl
  iterate 3 go_step
  refine wpList_insert_new (W := w.alloc _) rfl _ _ _ _ rfl _ _ Try.underlying153 _ Try.underlying3 (w.heap.size + 1) (by simp) ?hm 8 (.agg #[.bool false, .bool false, .bool false, .bool false, .bool false, .bool false]) ?hx ?hv ?hf ?_
  case hm => rfl
  case hx => rfl
  case hv => rfl
  case hf => kernel_rfl
  iterate 3 go_step
  refine wpList_insert_new (W := w.alloc _) rfl _ _ _ _ rfl _ _ Try.underlying153 _ Try.underlying3 (w.heap.size + 1) (by simp) ?hm 9 (.agg #[.bool false, .bool true, .bool true, .bool false, .bool true, .bool false]) ?hx ?hv ?hf ?_
  case hm => rfl
  case hx => rfl
  case hv => rfl
  case hf => kernel_rfl
  iterate 3 go_step
  refine wpList_insert_new (W := w.alloc _) rfl _ _ _ _ rfl _ _ Try.underlying153 _ Try.underlying3 (w.heap.size + 1) (by simp) ?hm 20 (.agg #[.bool false, .bool false, .bool false, .bool false, .bool false, .bool true]) ?hx ?hv ?hf ?_
  case hm => rfl
  case hx => rfl
  case hv => rfl
  case hf => kernel_rfl
  iterate 3 go_step
  refine wpList_insert_new (W := w.alloc _) rfl _ _ _ _ rfl _ _ Try.underlying153 _ Try.underlying3 (w.heap.size + 1) (by simp) ?hm 21 (.agg #[.bool false, .bool false, .bool true, .bool false, .bool false, .bool true]) ?hx ?hv ?hf ?_
  case hm => rfl
  case hx => rfl
  case hv => rfl
  case hf => kernel_rfl
  change wpList _ _ _ _ _ (World.alloc _ (.map needsRow 10))
  obtain ⟨rows, hrows⟩ : ∃ r, r = needsRow := ⟨_, rfl⟩
  rw [← hrows]
  have hf := needs_find op
  rw [← hrows] at hf
  clear hrows
  go_upto_region 2 with (fail)
  iterate 7 go_step
  refine wpList_lookup_ok rfl _ _ _ rfl _ _ Try.underlying153 _ Try.underlying3 (w.heap.size + 1) (es := rows) (clock := 10) ?hb rfl op rfl (needsVal none) ?hz (needsVal (needsOf op)) (needsOf op).isSome hf ?_
  case hb =>
    have h := heap_alloc_new (w.alloc (.cells #[.bool false, .bool false, .bool false, .bool false, .bool false, .bool false] 144)) (.map rows 10)
    rwa [World.size_alloc] at h
  case hz => kernel_rfl
  obtain ⟨b1, b2, b3, b4, b5, b6, hV⟩ := needsVal_bools (needsOf op)
  have HV := Lib.hid hV
  rw [hV]
  obtain ⟨ok, hok⟩ : ∃ ok, (needsOf op).isSome = ok := ⟨_, rfl⟩
  have HK := Lib.hid hok
  rw [hok]
  clear hf hV hok
  go_wp2
  refine bodyPost_ret (v := .tuple #[.agg #[.bool b1, .bool b2, .bool b3, .bool b4, .bool b5, .bool b6], .bool ok]) (by simp [results, Try.results108, go_sem]) rfl ?_
  exact ⟨by rw [HV.out, HK.out], by
    refine Below.alloc (Below.alloc (Below.alloc (Below.refl _ _) (Nat.le_refl _) _) ?_ _) ?_ _
    all_goals simp only [World.size_alloc]
    all_goals omega⟩

end Go.Proofs.Ytaocgmkcjemecaa
