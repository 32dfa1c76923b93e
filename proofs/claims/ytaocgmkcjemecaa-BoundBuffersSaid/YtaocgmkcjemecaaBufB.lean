/- BoundBuffers: all rows are looked at, in each of the 18 cases. Parts of the proof of the law. Conditions: none. -/
import Derived.Test.YtaocgmkcjemecaaMB
namespace Go.Proofs.Ytaocgmkcjemecaa
set_option linter.unusedVariables false
set_option linter.unusedSimpArgs false
set_option maxRecDepth 100000

theorem buf_L1 (n : Nat) {a b : Int} (h : Int.tmod (IntKind.i64.wrap a) 3 = Int.tmod (IntKind.i64.wrap b) 3) (s : Int) : ∀ (k : Nat) (x : Int) (l : List (List EntryS)), law22_BoundBuffers_L1 n a s k x l = law22_BoundBuffers_L1 n b s k x l := by
  intro k
  induction k with
  | zero => intro x l; rfl
  | succ k ih => intro x l; simp only [law22_BoundBuffers_L1, h, ih]
theorem buf_L2 (n : Nat) {a b : Int} (h : Int.tmod (IntKind.i64.wrap a) 3 = Int.tmod (IntKind.i64.wrap b) 3) (s : Int) : ∀ (k : Nat) (x : Int) (l : List (List EntryS)), law22_BoundBuffers_L2 n a s k x l = law22_BoundBuffers_L2 n b s k x l := by
  intro k
  induction k with
  | zero => intro x l; rfl
  | succ k ih => intro x l; simp only [law22_BoundBuffers_L2, h, ih]
theorem buf_L0 (n : Nat) {a b c a' b' c' : Int} (h : Int.tmod (IntKind.i64.wrap a) 3 = Int.tmod (IntKind.i64.wrap a') 3) (h1 : Int.tmod (IntKind.i64.wrap b) 3 = Int.tmod (IntKind.i64.wrap b') 3) (h2 : Int.tmod (IntKind.i64.wrap c) 2 = Int.tmod (IntKind.i64.wrap c') 2) : ∀ (k : Nat) (x y : Int) (l : List (List EntryS)), law22_BoundBuffers_L0 n a b c k x y l = law22_BoundBuffers_L0 n a' b' c' k x y l := by
  intro k
  induction k with
  | zero => intro x y l; rfl
  | succ k ih => intro x y l; simp only [law22_BoundBuffers_L0, h, h1, h2, ih, buf_L1 n h, buf_L2 n h]
theorem buf_m (n : Nat) {a b c a' b' c' : Int} (h : Int.tmod (IntKind.i64.wrap a) 3 = Int.tmod (IntKind.i64.wrap a') 3) (h1 : Int.tmod (IntKind.i64.wrap b) 3 = Int.tmod (IntKind.i64.wrap b') 3) (h2 : Int.tmod (IntKind.i64.wrap c) 2 = Int.tmod (IntKind.i64.wrap c') 2) : m_law22_BoundBuffers (n + 1) a b c = m_law22_BoundBuffers (n + 1) a' b' c' := by
  simp only [m_law22_BoundBuffers, h, h1, h2, buf_L0 n h h1 h2]
def bufAll : Bool := [0, 1, 2].all fun a => [0, 1, 2].all fun b => [0, 1].all fun c => m_law22_BoundBuffers 360 a b c == some true
theorem bufAll_true : bufAll = true := by decide +kernel
theorem buf_at {a b c : Int} (ha : a = 0 ∨ a = 1 ∨ a = 2) (hb : b = 0 ∨ b = 1 ∨ b = 2) (hc : c = 0 ∨ c = 1) : m_law22_BoundBuffers 360 a b c = some true := by
  have := bufAll_true
  unfold bufAll at this
  rw [List.all_eq_true] at this
  have := this a (by simpa using ha)
  rw [List.all_eq_true] at this
  have := this b (by simpa using hb)
  rw [List.all_eq_true] at this
  have := this c (by simpa using hc)
  exact eq_of_beq this
theorem small {a : Int} (h : (Lit.int .u8 a).wf = true) (m : Int) (hm : m = 2 ∨ m = 3) : ∃ b, (b = 0 ∨ b = 1 ∨ (b = 2 ∧ m = 3)) ∧ Int.tmod (IntKind.i64.wrap a) m = Int.tmod (IntKind.i64.wrap b) m := by
  have h0 : 0 ≤ a ∧ a ≤ 255 := by
    simpa [Lit.wf, IntKind.min, IntKind.max, IntKind.bits, IntKind.signed] using h
  rcases hm with rfl | rfl
  · refine ⟨a % 2, by omega, ?_⟩
    rw [wrap64 (by omega), wrap64 (by omega), Int.tmod_eq_emod_of_nonneg h0.1, Int.tmod_eq_emod_of_nonneg (by omega)]
    omega
  · refine ⟨a % 3, by omega, ?_⟩
    rw [wrap64 (by omega), wrap64 (by omega), Int.tmod_eq_emod_of_nonneg h0.1, Int.tmod_eq_emod_of_nonneg (by omega)]
    omega
theorem boundBuffers_frame (W : World) (a : Int) (ha : (Lit.int .u8 a).wf = true) (b : Int) (hb : (Lit.int .u8 b).wf = true) (c : Int) (hc : (Lit.int .u8 c).wf = true) : Calls Try.prog 5 #[.int .u8 a, .int .u8 b, .int .u8 c] W (LawOk W) := by
  obtain ⟨a', ha', ea⟩ := small ha 3 (.inr rfl)
  obtain ⟨b', hb', eb⟩ := small hb 3 (.inr rfl)
  obtain ⟨c', hc', ec⟩ := small hc 2 (.inl rfl)
  have hm : m_law22_BoundBuffers (359 + 1) a b c = some true := by
    rw [buf_m 359 ea eb ec]
    exact buf_at (by omega) (by omega) (by omega)
  exact law_calls XT_sound (ok_law22_BoundBuffers 360 a b c true hm) (.cons _ _ _ _ _ _ (.int _ _ _ _ ha) (.cons _ _ _ _ _ _ (.int _ _ _ _ hb) (.cons _ _ _ _ _ _ (.int _ _ _ _ hc) (.nil _ _))))
end Go.Proofs.Ytaocgmkcjemecaa
