/- A unit that a call lays: a thread that does nothing. Parts of the proofs of the laws of layers 9 to 22. Conditions: none. -/
import Derived.Test.YtaocgmkcjemecaaPlainUnit
namespace Go.Proofs.Ytaocgmkcjemecaa
open Go.RowKit
set_option linter.unusedVariables false
set_option linter.unusedSimpArgs false

def fenceI : InstrS := ⟨8, 0, 0, [], [], false, 0⟩
def doneI : InstrS := ⟨22, 0, 0, [], [], false, 0⟩
def litU (mod x : Int) : UnitS := ⟨mod, [x], [1], [[fenceI, doneI]]⟩

theorem Sl.lit {α : Type} {r : Rd α} {w : World} {b : Nat} {l : List α} (rows : List (List Value)) (hlen : rows.length = l.length) (hmax : l.length ≤ 1000) (h : ∀ k (hk : k < l.length), ∃ cs, rows[k]? = some cs ∧ cs.length = r.size ∧ (∀ j u, cs[j]? = some u → w.cell? ⟨b, k * r.size + j, none⟩ = some u) ∧ r.rel w cs l[k]) :
    Sl r w (.slice (some ⟨b, 0, none⟩) l.length l.length) l := by
  refine ⟨some ⟨b, 0, none⟩, l.length, rfl, ⟨Nat.le_refl _, by unfold maxLen; omega, by simp⟩, fun k hk => ?_⟩
  obtain ⟨cs, _, h2, h3, h4⟩ := h k hk
  exact ⟨b, 0, cs, rfl, h2, fun j u hj => by rw [Nat.zero_add]; exact h3 j u hj, h4⟩

theorem Sl.nil' {α : Type} (r : Rd α) (w : World) : Sl r w (.slice none 0 0) [] := ⟨none, 0, rfl, by simp, fun k hk => absurd hk (by simp)⟩
theorem wf0 : (Lit.int .i64 0).wf = true := by decide
theorem rel_plain (w : World) (op : Int) (hwf : (Lit.int .i64 op).wf = true) : rInstr.rel w [.int .i64 op, .int .i64 0, .int .i64 0, .slice none 0 0, .slice none 0 0, .bool false, .int .i64 0] ⟨op, 0, 0, [], [], false, 0⟩ :=
  ⟨(op, (0, (0, ([], ([], (false, 0)))))), ⟨⟨rfl, hwf⟩, ⟨rfl, wf0⟩, ⟨rfl, wf0⟩, Sl.nil' _ _, Sl.nil' _ _, rfl, rfl, wf0⟩, rfl⟩

theorem lit_unit {w : World} {mod x : Int} {b1 b2 b3 b4 : Nat} (hm : (Lit.int .i64 mod).wf = true) (hx : (Lit.int .i64 x).wf = true) (h1 : w.cell? ⟨b1, 0, none⟩ = some (.int .i64 x)) (h2 : w.cell? ⟨b2, 0, none⟩ = some (.int .i64 1))
    (h3 : ∀ j u, ([.int .i64 8, .int .i64 0, .int .i64 0, .slice none 0 0, .slice none 0 0, .bool false, .int .i64 0, .int .i64 22, .int .i64 0, .int .i64 0, .slice none 0 0, .slice none 0 0, .bool false, .int .i64 0] : List Value)[j]? = some u → w.cell? ⟨b3, j, none⟩ = some u)
    (h4 : w.cell? ⟨b4, 0, none⟩ = some (.slice (some ⟨b3, 0, none⟩) 2 2)) :
    UnitV w (.agg #[.int .i64 mod, .slice (some ⟨b1, 0, none⟩) 1 1, .slice (some ⟨b2, 0, none⟩) 1 1, .slice (some ⟨b4, 0, none⟩) 1 1]) (litU mod x) := by
  have hr : Sl rInstr w (.slice (some ⟨b3, 0, none⟩) 2 2) [fenceI, doneI] := by
    refine Sl.lit (l := [fenceI, doneI]) [[.int .i64 8, .int .i64 0, .int .i64 0, .slice none 0 0, .slice none 0 0, .bool false, .int .i64 0], [.int .i64 22, .int .i64 0, .int .i64 0, .slice none 0 0, .slice none 0 0, .bool false, .int .i64 0]] rfl (by show _ ≤ 1000; simp) fun k hk => ?_
    have hk : k = 0 ∨ k = 1 := by simp at hk; omega
    rcases hk with rfl | rfl
    · refine ⟨_, rfl, rfl, fun j u hj => ?_, rel_plain w 8 (by decide)⟩
      have hj2 : j < 7 := (List.getElem?_eq_some_iff.1 hj).1
      rw [show 0 * rInstr.size + j = j by omega]
      refine h3 j u ?_
      rw [← hj]
      have : j = 0 ∨ j = 1 ∨ j = 2 ∨ j = 3 ∨ j = 4 ∨ j = 5 ∨ j = 6 := by omega
      rcases this with rfl | rfl | rfl | rfl | rfl | rfl | rfl <;> rfl
    · refine ⟨_, rfl, rfl, fun j u hj => ?_, rel_plain w 22 (by decide)⟩
      have hj2 : j < 7 := (List.getElem?_eq_some_iff.1 hj).1
      rw [show 1 * rInstr.size + j = 7 + j by show 1 * 7 + j = 7 + j; omega]
      refine h3 (7 + j) u ?_
      rw [← hj]
      have : j = 0 ∨ j = 1 ∨ j = 2 ∨ j = 3 ∨ j = 4 ∨ j = 5 ∨ j = 6 := by omega
      rcases this with rfl | rfl | rfl | rfl | rfl | rfl | rfl <;> rfl
  refine ⟨_, _, _, rfl, ?_, ?_, ?_, wf_i64 hm⟩
  · refine Sl.lit (l := [x]) [[.int .i64 x]] rfl (by show _ ≤ 1000; simp) fun k hk => ?_
    obtain rfl : k = 0 := by simp at hk; omega
    exact ⟨_, rfl, rfl, fun j u hj => by obtain rfl : j = 0 := (by have := (List.getElem?_eq_some_iff.1 hj).1; simp at this; omega); simpa [← hj] using h1, rfl, hx⟩
  · refine Sl.lit (l := [1]) [[.int .i64 1]] rfl (by show _ ≤ 1000; simp) fun k hk => ?_
    obtain rfl : k = 0 := by simp at hk; omega
    exact ⟨_, rfl, rfl, fun j u hj => by obtain rfl : j = 0 := (by have := (List.getElem?_eq_some_iff.1 hj).1; simp at this; omega); simpa [← hj] using h2, rfl, (by decide : (Lit.int .i64 1).wf = true)⟩
  · refine Sl.lit (r := rInstrs) (l := [[fenceI, doneI]]) [[.slice (some ⟨b3, 0, none⟩) 2 2]] rfl (by show _ ≤ 1000; simp) fun k hk => ?_
    obtain rfl : k = 0 := by simp at hk; omega
    exact ⟨_, rfl, rfl, fun j u hj => by obtain rfl : j = 0 := (by have := (List.getElem?_eq_some_iff.1 hj).1; simp at this; omega); simpa [← hj] using h4, hr⟩

def zeroU : UnitS := ⟨0, [], [], []⟩
theorem zero_unit (w : World) : UnitV w (.agg #[.int .i64 0, .slice none 0 0, .slice none 0 0, .slice none 0 0]) zeroU :=
  ⟨_, _, _, rfl, ⟨none, 0, rfl, ⟨Nat.le_refl _, by decide, fun _ => rfl⟩, fun k hk => absurd hk (Nat.not_lt_zero k)⟩, ⟨none, 0, rfl, ⟨Nat.le_refl _, by decide, fun _ => rfl⟩, fun k hk => absurd hk (Nat.not_lt_zero k)⟩, ⟨none, 0, rfl, ⟨Nat.le_refl _, by decide, fun _ => rfl⟩, fun k hk => absurd hk (Nat.not_lt_zero k)⟩, by show (-9223372036854775808 : Int) ≤ 0; omega, by show (0 : Int) ≤ 9223372036854775807; omega⟩

theorem newc (w1 : World) (cs : Array Value) (E : TypeId) (k : Nat) (u : Value) (h : cs[k]? = some u) : (w1.alloc (.cells cs E)).cell? ⟨w1.heap.size, k, none⟩ = some u := by simp [h]
/-- Five blocks laid one behind the other. -/
theorem lay5 (w : World) (c1 c2 c3 c4 c5 : Array Value) (E1 E2 E3 E4 E5 : TypeId) {W : World} (hW : W = ((((w.alloc (.cells c1 E1)).alloc (.cells c2 E2)).alloc (.cells c3 E3)).alloc (.cells c4 E4)).alloc (.cells c5 E5)) :
    Below w.heap.size w W ∧ (∀ k u, c1[k]? = some u → W.cell? ⟨w.heap.size, k, none⟩ = some u) ∧ (∀ k u, c2[k]? = some u → W.cell? ⟨w.heap.size + 1, k, none⟩ = some u) ∧ (∀ k u, c3[k]? = some u → W.cell? ⟨w.heap.size + 1 + 1, k, none⟩ = some u) ∧
      (∀ k u, c4[k]? = some u → W.cell? ⟨w.heap.size + 1 + 1 + 1, k, none⟩ = some u) ∧ (∀ k u, c5[k]? = some u → W.cell? ⟨w.heap.size + 1 + 1 + 1 + 1, k, none⟩ = some u) := by
  subst hW
  have n2 := World.size_alloc w (.cells c1 E1)
  have n3 := World.size_alloc (w.alloc (.cells c1 E1)) (.cells c2 E2)
  have n4 := World.size_alloc ((w.alloc (.cells c1 E1)).alloc (.cells c2 E2)) (.cells c3 E3)
  have n5 := World.size_alloc (((w.alloc (.cells c1 E1)).alloc (.cells c2 E2)).alloc (.cells c3 E3)) (.cells c4 E4)
  have h1 : ∀ k u, c1[k]? = some u → (w.alloc (.cells c1 E1)).cell? ⟨w.heap.size, k, none⟩ = some u := fun k u h => by simp [h]
  have h2 : ∀ k u, c2[k]? = some u → ((w.alloc (.cells c1 E1)).alloc (.cells c2 E2)).cell? ⟨w.heap.size + 1, k, none⟩ = some u := fun k u h => by have := newc (w.alloc (.cells c1 E1)) c2 E2 k u h; rw [n2] at this; exact this
  have h3 : ∀ k u, c3[k]? = some u → (((w.alloc (.cells c1 E1)).alloc (.cells c2 E2)).alloc (.cells c3 E3)).cell? ⟨w.heap.size + 1 + 1, k, none⟩ = some u := fun k u h => by have := newc ((w.alloc (.cells c1 E1)).alloc (.cells c2 E2)) c3 E3 k u h; rw [n3, n2] at this; exact this
  have h4 : ∀ k u, c4[k]? = some u → ((((w.alloc (.cells c1 E1)).alloc (.cells c2 E2)).alloc (.cells c3 E3)).alloc (.cells c4 E4)).cell? ⟨w.heap.size + 1 + 1 + 1, k, none⟩ = some u := fun k u h => by have := newc (((w.alloc (.cells c1 E1)).alloc (.cells c2 E2)).alloc (.cells c3 E3)) c4 E4 k u h; rw [n4, n3, n2] at this; exact this
  have up : ∀ (w : World) (o : Obj), Below w.heap.size w (w.alloc o) := fun w o => (Below.refl _ _).alloc (Nat.le_refl _) _
  refine ⟨?_, fun k u h => ?_, fun k u h => ?_, fun k u h => ?_, fun k u h => ?_, fun k u h => ?_⟩
  · refine Below.alloc (Below.alloc (Below.alloc (Below.alloc (Below.alloc (Below.refl _ _) (Nat.le_refl _) _) ?_ _) ?_ _) ?_ _) ?_ _
    all_goals omega
  · exact cell_later (up _ _) (cell_later (up _ _) (cell_later (up _ _) (cell_later (up _ _) (h1 k u h))))
  · exact cell_later (up _ _) (cell_later (up _ _) (cell_later (up _ _) (h2 k u h)))
  · exact cell_later (up _ _) (cell_later (up _ _) (h3 k u h))
  · exact cell_later (up _ _) (h4 k u h)
  · have := newc ((((w.alloc (.cells c1 E1)).alloc (.cells c2 E2)).alloc (.cells c3 E3)).alloc (.cells c4 E4)) c5 E5 k u h
    rw [n5, n4, n3, n2] at this
    exact this

end Go.Proofs.Ytaocgmkcjemecaa
