/- Plain: powers, sums and products that are cut. Parts of the proofs of the laws of layer 22. Conditions: none. -/
import Derived.Test.YtaocgmkcjemecaaPlainUnit
namespace Go.Proofs.Ytaocgmkcjemecaa
set_option linter.unusedVariables false
set_option linter.unusedSimpArgs false

abbrev cutN : Nat := 1125899906842624
def timesN (a b : Nat) : Nat := min (a * b) cutN
def powN (a n : Nat) : Nat := min (a ^ n) cutN
/-- The sum of the first k powers. -/
def sumN (a : Nat) : Nat → Nat
  | 0 => 0
  | k + 1 => min (sumN a k + powN a k) cutN

theorem powN_le (a n : Nat) : powN a n ≤ cutN := Nat.min_le_right _ _
theorem timesN_le (a b : Nat) : timesN a b ≤ cutN := Nat.min_le_right _ _
theorem sumN_le (a k : Nat) : sumN a k ≤ cutN := by
  cases k with
  | zero => exact Nat.zero_le _
  | succ k => exact Nat.min_le_right _ _

theorem timesN_cut (x y : Nat) : timesN (min x cutN) (min y cutN) = min (x * y) cutN := by
  unfold timesN
  rcases Nat.le_total x cutN with hx | hx <;> rcases Nat.le_total y cutN with hy | hy
  · rw [Nat.min_eq_left hx, Nat.min_eq_left hy]
  · rw [Nat.min_eq_left hx, Nat.min_eq_right hy]
    cases x with
    | zero => simp
    | succ x =>
      have h1 : cutN ≤ (x + 1) * cutN := Nat.le_mul_of_pos_left _ (Nat.succ_pos x)
      have h2 : cutN ≤ (x + 1) * y := Nat.le_trans hy (Nat.le_mul_of_pos_left _ (Nat.succ_pos x))
      rw [Nat.min_eq_right h1, Nat.min_eq_right h2]
  · rw [Nat.min_eq_right hx, Nat.min_eq_left hy]
    cases y with
    | zero => simp
    | succ y =>
      have h1 : cutN ≤ cutN * (y + 1) := Nat.le_mul_of_pos_right _ (Nat.succ_pos y)
      have h2 : cutN ≤ x * (y + 1) := Nat.le_trans hx (Nat.le_mul_of_pos_right _ (Nat.succ_pos y))
      rw [Nat.min_eq_right h1, Nat.min_eq_right h2]
  · rw [Nat.min_eq_right hx, Nat.min_eq_right hy]
    have h1 : cutN ≤ cutN * cutN := Nat.le_mul_of_pos_left _ (by decide)
    have h2 : cutN ≤ x * y := Nat.le_trans hx (Nat.le_mul_of_pos_right _ (Nat.lt_of_lt_of_le (by decide) hy))
    rw [Nat.min_eq_right h1, Nat.min_eq_right h2]

theorem powN_mul (a n m : Nat) : timesN (powN a n) (powN a m) = powN a (n + m) := by
  unfold powN; rw [timesN_cut, Nat.pow_add]
theorem powN_cut (a n : Nat) : powN (min a cutN) n = powN a n := by
  induction n with
  | zero => rfl
  | succ n ih =>
    have e : ∀ b : Nat, powN b (n + 1) = timesN (powN b n) (min b cutN) := fun b => by unfold powN; rw [timesN_cut, Nat.pow_succ]
    rw [e, e, ih, Nat.min_eq_left (Nat.min_le_right a cutN)]
theorem powN_succ {a : Nat} (ha : a ≤ cutN) (n : Nat) : timesN (powN a n) a = powN a (n + 1) := by
  have h : powN a 1 = a := by unfold powN; rw [Nat.pow_one, Nat.min_eq_left ha]
  have := powN_mul a n 1
  rw [h] at this
  exact this
theorem powN_zero (a : Nat) : powN a 0 = 1 := rfl
theorem powN_one' {a : Nat} (ha : a ≤ cutN) : powN a 1 = a := by unfold powN; rw [Nat.pow_one, Nat.min_eq_left ha]

/-- By squares. -/
theorem pow_odd {p a r n : Nat} (h : n % 2 = 1) (e : timesN p (powN a n) = r) : timesN (timesN p a) (powN (a * a) (n / 2)) = r := by
  rw [← e]
  unfold powN timesN
  have hn : n = n / 2 * 2 + 1 := by omega
  have e1 : a ^ n = a * (a * a) ^ (n / 2) := by
    conv => lhs; rw [hn]
    rw [Nat.pow_succ, Nat.mul_comm, Nat.pow_mul', Nat.pow_two]
  have e2 := timesN_cut (p * a) ((a * a) ^ (n / 2))
  unfold timesN at e2
  have e3 := timesN_cut p (a ^ n)
  rw [e2, e1]
  rcases Nat.le_total p cutN with hp | hp
  · rw [Nat.min_eq_left hp] at e3; unfold timesN at e3; rw [e1] at e3; rw [e3, Nat.mul_assoc]
  · rcases Nat.eq_zero_or_pos (a * (a * a) ^ (n / 2)) with hz | hz
    · rw [hz, Nat.mul_assoc, hz]; simp
    · have h1 : cutN ≤ p * a * (a * a) ^ (n / 2) := by rw [Nat.mul_assoc]; exact Nat.le_trans hp (Nat.le_mul_of_pos_right _ hz)
      have h2 : cutN ≤ p * min (a * (a * a) ^ (n / 2)) cutN := Nat.le_trans hp (Nat.le_mul_of_pos_right _ (Nat.lt_min.2 ⟨hz, by decide⟩))
      rw [Nat.min_eq_right h1, Nat.min_eq_right h2]
theorem pow_even {p a r n : Nat} (h : n % 2 = 0) (e : timesN p (powN a n) = r) : timesN p (powN (a * a) (n / 2)) = r := by
  rw [← e]
  have hn : n = n / 2 * 2 := by omega
  have e1 : a ^ n = (a * a) ^ (n / 2) := by
    conv => lhs; rw [hn]
    rw [Nat.pow_mul', Nat.pow_two]
  unfold powN
  rw [e1]
theorem pow_sq (p a n : Nat) : timesN p (powN (timesN a a) n) = timesN p (powN (a * a) n) := by
  show timesN p (powN (min (a * a) cutN) n) = _
  rw [powN_cut]

/-- A power is cut from the sixtieth on. -/
theorem powN_many (a : Nat) {n : Nat} (h : 60 ≤ n) : powN a n = powN a 60 := by
  unfold powN
  rcases Nat.lt_or_ge a 2 with ha | ha
  · have : a = 0 ∨ a = 1 := by omega
    rcases this with rfl | rfl
    · rw [Nat.zero_pow (by omega), Nat.zero_pow (by omega)]
    · simp
  · have h2 : cutN ≤ a ^ 60 := Nat.le_trans (by decide : cutN ≤ 2 ^ 60) (Nat.pow_le_pow_left ha 60)
    have h3 : a ^ 60 ≤ a ^ n := Nat.pow_le_pow_right (by omega) h
    rw [Nat.min_eq_right h2, Nat.min_eq_right (Nat.le_trans h2 h3)]

def buffersN (locs mod model room : Int) : Nat :=
  if locs < 0 ∨ 6 < locs ∨ mod < 2 ∨ 16 < mod ∨ room < 1 ∨ 4 < room then 0
  else if model = 1 then 1
  else if model = 2 then sumN (locs * mod).toNat (room.toNat + 1)
  else if model = 3 then powN (sumN mod.toNat (room.toNat + 1)) locs.toNat
  else 0
theorem buffersN_le (locs mod model room : Int) : buffersN locs mod model room ≤ cutN := by
  unfold buffersN
  repeat' split
  · decide
  · decide
  · exact sumN_le _ _
  · exact powN_le _ _
  · decide

def threadN (u : UnitS) (t : Nat) (model room : Int) : Nat := match u.regs[t]?, u.code[t]? with
  | some n, some r => timesN (timesN r.length (powN u.mod.toNat n.toNat)) (buffersN u.init.length u.mod model room)
  | _, _ => 0
def countGo (u : UnitS) (model room : Int) : Nat → Nat
  | 0 => powN u.mod.toNat u.init.length
  | t + 1 => timesN (countGo u model room t) (threadN u t model room)
theorem threadN_le (u : UnitS) (t : Nat) (model room : Int) : threadN u t model room ≤ cutN := by
  unfold threadN
  split
  · exact timesN_le _ _
  · decide
theorem countGo_le (u : UnitS) (model room : Int) (t : Nat) : countGo u model room t ≤ cutN := by
  cases t with
  | zero => exact powN_le _ _
  | succ t => exact timesN_le _ _
/-- How many, and which error. -/
def countU (u : UnitS) (model room : Int) : Int × Int :=
  if rightU u = false then (0, 8) else if model < 1 ∨ 3 < model ∨ room < 1 ∨ 4 < room then (0, 1) else (countGo u model room u.regs.length, 0)

end Go.Proofs.Ytaocgmkcjemecaa
