/- Reference 07's in, has, parts, done. Parts of the proofs of the laws of layers 6 to 22. Conditions: none. -/
import Derived.Test.YtaocgmkcjemecaaLowE
namespace Go.Proofs.Ytaocgmkcjemecaa
open Go.RowKit
set_option linter.unusedVariables false
set_option linter.unusedSimpArgs false

set_option maxHeartbeats 400000 in
theorem in07_any (a b : Int) (w : World) : Calls Try.prog 88 #[.int .i64 a, .int .i64 b] w fun e w' => e = .returned (.bool (inB a b)) ∧ w = w' := by
  go_enter Try.func88, Try.ntmps88
  go_wp2
  all_goals
    go_ret
    refine ⟨congrArg (fun b => Ending.returned (.bool b)) ?_, rfl⟩
    rw [Bool.eq_iff_iff]
    simp [inB]
    try omega

def hasB (s : ByteArray) (c : Int) : Bool := s.data.toList.any fun b => (b.toNat : Int) == c
theorem hasB_yes {s : ByteArray} {c : Int} {k : Nat} (hk : k < s.size) (h : (s[k].toNat : Int) = c) : hasB s c = true := by
  simp only [hasB, List.any_eq_true]
  exact ⟨s[k], by rw [Array.mem_toList_iff]; exact Array.getElem_mem hk, by simpa using h⟩
theorem hasB_no {s : ByteArray} {c : Int} (h : ∀ k (hk : k < s.size), (s[k].toNat : Int) ≠ c) : hasB s c = false := by
  rw [Bool.eq_false_iff]
  intro e
  simp only [hasB, List.any_eq_true] at e
  obtain ⟨x, hx, hc⟩ := e
  rw [Array.mem_toList_iff] at hx
  obtain ⟨k, hk, rfl⟩ := Array.getElem_of_mem hx
  exact h k hk (by rw [beq_iff_eq] at hc; exact hc)

set_option maxHeartbeats 1000000 in
theorem has_any (s : ByteArray) (c : Int) (w : World) (hs : s.size ≤ 1000) :
    Calls Try.prog 87 #[.string s, .int .u8 c] w fun e w' => e = .returned (.bool (hasB s c)) ∧ w = w' := by
  go_enter Try.func87, Try.ntmps87
  go_wp2
  go_loop [5] (fun i => ∃ k : Nat, i = .int .i64 k ∧ k ≤ s.size ∧ ∀ j (h : j < s.size), j < k → (s[j].toNat : Int) ≠ c) (fun i => s.size - (intOf i).toNat)
  case atStart => exact ⟨0, rfl, by omega, fun j _ h => absurd h (by omega)⟩
  case round =>
    obtain ⟨k, rfl, hk, hall⟩ := hrel
    have Hall := Lib.hid hall; clear hall
    by_cases hlt : k < s.size
    · by_cases h1 : (s[k].toNat : Int) = c
      · have HT := Lib.hid (hasB_yes hlt h1)
        have d1 : ((s[k].toNat : Int) == c) = true := by simpa using h1
        clear h1
        go_wp2
        go_ret
        exact ⟨by rw [HT.out]; rfl, rfl⟩
      · have H1 := Lib.hid h1
        have d1 : ((s[k].toNat : Int) == c) = false := by simpa using h1
        clear h1
        go_wp2
        go_round
        case rel => exact ⟨k + 1, by go_num, by omega, fun j h2 h3 => by
          rcases Nat.lt_or_ge j k with h | h
          · exact Hall.out j h2 h
          · obtain rfl : j = k := by omega
            exact H1.out⟩
        case measure => simp [intOf]; omega
    · have HF := Lib.hid (hasB_no (s := s) (c := c) fun j hj => Hall.out j hj (by omega))
      go_wp2
      go_ret
      exact ⟨by rw [HF.out]; rfl, rfl⟩

theorem has_lit (s : ByteArray) (c : Int) (b : Bool) (w : World) (hb : hasB s c = b) (hs : s.size ≤ 1000) : Calls Try.prog 87 #[.string s, .int .u8 c] w fun e w' => e = .returned (.bool b) ∧ w = w' := by
  rw [← hb]; exact has_any s c w hs

theorem and_no_e {a b c d e f : Bool} (h : e = false) : (a && b && c && d && e && f) = false := by rw [h]; simp
theorem and_no_f {a b c d e f : Bool} (h : f = false) : (a && b && c && d && e && f) = false := by rw [h]; simp
theorem codeB_no {l : List OpS} {regs : Int} {n : Nat} (h : l.length = n) (hn : 0 < n) : codeB false l regs = false := by
  cases l with
  | nil => simp at h; omega
  | cons _ _ => rfl
theorem codeB_nil {l : List OpS} {regs : Int} (h : l.length = 0) : codeB false l regs = true := by
  rw [List.length_eq_zero_iff.1 h]; rfl

def PartsIs (s : ByteArray) (b : Bool) (w : World) (e : Ending) (w' : World) : Prop := e = .returned (.tuple #[.string s, .bool b]) ∧ w = w'

set_option maxHeartbeats 400000 in
theorem parts_2 (w : World) : Calls Try.prog 86 #[.int .i64 2] w (PartsIs ⟨#[114, 101]⟩ true w) := by
  go_enter Try.func86, Try.ntmps86
  go_wp2
  go_ret2
  exact ⟨rfl, rfl⟩

set_option maxHeartbeats 400000 in
theorem parts_3 (w : World) : Calls Try.prog 86 #[.int .i64 3] w (PartsIs ⟨#[114, 108]⟩ true w) := by
  go_enter Try.func86, Try.ntmps86
  go_wp2
  go_ret2
  exact ⟨rfl, rfl⟩

set_option maxHeartbeats 400000 in
theorem parts_4 (w : World) : Calls Try.prog 86 #[.int .i64 4] w (PartsIs ⟨#[108, 101]⟩ true w) := by
  go_enter Try.func86, Try.ntmps86
  go_wp2
  go_ret2
  exact ⟨rfl, rfl⟩

set_option maxHeartbeats 400000 in
theorem parts_5 (w : World) : Calls Try.prog 86 #[.int .i64 5] w (PartsIs ⟨#[114, 108, 101, 102]⟩ true w) := by
  go_enter Try.func86, Try.ntmps86
  go_wp2
  go_ret2
  exact ⟨rfl, rfl⟩

set_option maxHeartbeats 400000 in
theorem parts_6 (w : World) : Calls Try.prog 86 #[.int .i64 6] w (PartsIs ⟨#[114, 108, 101]⟩ true w) := by
  go_enter Try.func86, Try.ntmps86
  go_wp2
  go_ret2
  exact ⟨rfl, rfl⟩

set_option maxHeartbeats 400000 in
theorem parts_7 (w : World) : Calls Try.prog 86 #[.int .i64 7] w (PartsIs ⟨#[114, 108, 101]⟩ true w) := by
  go_enter Try.func86, Try.ntmps86
  go_wp2
  go_ret2
  exact ⟨rfl, rfl⟩

set_option maxHeartbeats 400000 in
theorem parts_8 (w : World) : Calls Try.prog 86 #[.int .i64 8] w (PartsIs ⟨#[]⟩ true w) := by
  go_enter Try.func86, Try.ntmps86
  go_wp2
  go_ret2
  exact ⟨rfl, rfl⟩

set_option maxHeartbeats 400000 in
theorem parts_9 (w : World) : Calls Try.prog 86 #[.int .i64 9] w (PartsIs ⟨#[108, 101, 110]⟩ true w) := by
  go_enter Try.func86, Try.ntmps86
  go_wp2
  go_ret2
  exact ⟨rfl, rfl⟩

set_option maxHeartbeats 400000 in
theorem parts_20 (w : World) : Calls Try.prog 86 #[.int .i64 20] w (PartsIs ⟨#[116]⟩ true w) := by
  go_enter Try.func86, Try.ntmps86
  go_wp2
  go_ret2
  exact ⟨rfl, rfl⟩

set_option maxHeartbeats 400000 in
theorem parts_21 (w : World) : Calls Try.prog 86 #[.int .i64 21] w (PartsIs ⟨#[101, 116]⟩ true w) := by
  go_enter Try.func86, Try.ntmps86
  go_wp2
  go_ret2
  exact ⟨rfl, rfl⟩

theorem needs_no {op : Int} (h : needsOf op = none) : (op == 2) = false ∧ (op == 3) = false ∧ (op == 4) = false ∧ (op == 5) = false ∧ (op == 6) = false ∧ (op == 7) = false ∧ (op == 8) = false ∧ (op == 9) = false ∧ (op == 20) = false ∧ (op == 21) = false := by
  refine ⟨?_, ?_, ?_, ?_, ?_, ?_, ?_, ?_, ?_, ?_⟩
  all_goals
    apply ib_no
    rintro rfl
    simp [needsOf] at h

set_option maxHeartbeats 400000 in
theorem parts_none (op : Int) (w : World) (h : needsOf op = none) : Calls Try.prog 86 #[.int .i64 op] w (PartsIs ⟨#[]⟩ false w) := by
  obtain ⟨d2, d3, d4, d5, d6, d7, d8, d9, d20, d21⟩ := needs_no h
  clear h
  go_enter Try.func86, Try.ntmps86
  go_wp2
  go_ret2
  exact ⟨rfl, rfl⟩

set_option maxHeartbeats 400000 in
theorem done07_any (x : InstrS) (ve vf : Value) (w : World) (he : Sl rOp w ve x.e) (hf : Sl rOp w vf x.f) :
    Calls Try.prog 60 #[.agg #[.int .i64 x.op, .int .i64 x.reg, .int .i64 x.loc, ve, vf, .bool x.ne, .int .i64 x.goal]] w (BoolBelow (doneOk x) w) := by
  have hl1 := he.len
  have hl2 := hf.len
  obtain ⟨a, c, rfl, h1⟩ := ops_view he
  obtain ⟨a2, c2, rfl, h2⟩ := ops_view hf
  clear he hf h1 h2
  obtain ⟨op, reg, loc, le, lf, ne, goal⟩ := x
  cases ne
  all_goals
    go_enter Try.func60, Try.ntmps60
    go_wp2
    all_goals
      go_ret
      refine ⟨congrArg (fun b => Ending.returned (.bool b)) ?_, (Below.refl _ _).alloc (Nat.le_refl _) _⟩
      rw [Bool.eq_iff_iff]
      simp [doneOk, List.isEmpty_iff, ← List.length_eq_zero_iff]
      try first | omega | (intros; simp only [wrap64]; omega) | (intros; simp_all [List.length_eq_zero_iff])

end Go.Proofs.Ytaocgmkcjemecaa
