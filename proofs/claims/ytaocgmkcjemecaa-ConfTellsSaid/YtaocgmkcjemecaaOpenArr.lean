/- Arrays of integers that came in. Parts of the proofs of the laws of layers 6 to 22. Conditions: none. -/
import Derived.Test.YtaocgmkcjemecaaUnit
namespace Go.Proofs.Ytaocgmkcjemecaa
open Go.RowKit Go.WideShapes
set_option linter.unusedVariables false
set_option linter.unusedSimpArgs false

def rArr (n : Nat) : Rd (List Int) := ⟨n, fun _ cs l => cs = l.map (Value.int .i64) ∧ l.length = n ∧ ∀ x ∈ l, (Lit.int .i64 x).wf = true⟩

theorem opens_arr {P : Program} {t e : TypeId} {n : Nat} (ht : P.underlying t = some (.array n e)) (he : P.underlying e = some (.int .i64)) (hc : P.cellsOf t = n) (hce : P.cellsOf e = 1) : Opens P t (rArr n) := by
  refine ⟨hc, fun H enc w base spare held fuel cs x h => ?_⟩
  obtain ⟨xs, m, _, _, h1, h2, h3⟩ := DataW.trod_array ht h
  rw [hce] at h3
  rw [hc] at h1
  obtain ⟨l, hl, hp⟩ := list_of (n := n) (p := fun i y => cs[i]? = some (Value.int .i64 y) ∧ (Lit.int .i64 y).wf = true) (fun i hi => by
    have h4 := h3 i hi
    rw [Nat.mul_one, List.getElem?_eq_getElem (by omega)] at h4
    obtain ⟨y, h5, _, h6⟩ := DataW.trod_int he h4
    refine ⟨y, ?_, h6⟩
    have := congrArg (fun l => l[0]?) h5
    simp only [List.getElem?_take, List.getElem?_drop] at this
    simpa using this)
  refine ⟨l, ?_, hl, fun x hx => ?_⟩
  · apply List.ext_getElem?
    intro i
    rcases Nat.lt_or_ge i n with hi | hi
    · have := (hp i (by omega)).1
      rw [this, List.getElem?_map, List.getElem?_eq_getElem (by omega)]
      rfl
    · rw [List.getElem?_eq_none (by omega), List.getElem?_eq_none (by simp; omega)]
  · obtain ⟨i, hi, rfl⟩ := List.getElem_of_mem hx
    exact (hp i hi).2

theorem okWide_struct' {P : Program} {w : World} {r : Reach} {base : Nat} {t : TypeId} {v : Value} {fs : Array Field} (ht : P.underlying t = some (.struct fs)) (h : Value.okWide P w r base t v) : ∃ cs, v = .agg cs := by
  simp only [Value.okWide, ht] at h
  obtain ⟨cs, rfl, _⟩ := h
  exact ⟨cs, rfl⟩
theorem okWide_array' {P : Program} {w : World} {r : Reach} {base : Nat} {t : TypeId} {v : Value} {n : Nat} {e : TypeId} (ht : P.underlying t = some (.array n e)) (h : Value.okWide P w r base t v) : ∃ cs, v = .agg cs := by
  simp only [Value.okWide, ht] at h
  obtain ⟨cs, rfl, _⟩ := h
  exact ⟨cs, rfl⟩

theorem arr2_of {w : World} {cs : Array Value} {l : List Int} (h : (rArr 2).rel w cs.toList l) : ∃ a b : Int, cs = #[.int .i64 a, .int .i64 b] ∧ (-9223372036854775808 ≤ a ∧ a ≤ 9223372036854775807) ∧ (-9223372036854775808 ≤ b ∧ b ≤ 9223372036854775807) := by
  obtain ⟨h1, h2, h3⟩ := h
  obtain ⟨cs⟩ := cs
  match l, h2 with
  | [a, b], _ => exact ⟨a, b, by simpa using h1, wf_i64 (h3 a (by simp)), wf_i64 (h3 b (by simp))⟩
theorem arr3_of {w : World} {cs : Array Value} {l : List Int} (h : (rArr 3).rel w cs.toList l) : ∃ a b c : Int, cs = #[.int .i64 a, .int .i64 b, .int .i64 c] ∧ (-9223372036854775808 ≤ a ∧ a ≤ 9223372036854775807) ∧ (-9223372036854775808 ≤ b ∧ b ≤ 9223372036854775807) ∧ (-9223372036854775808 ≤ c ∧ c ≤ 9223372036854775807) := by
  obtain ⟨h1, h2, h3⟩ := h
  obtain ⟨cs⟩ := cs
  match l, h2 with
  | [a, b, c], _ => exact ⟨a, b, c, by simpa using h1, wf_i64 (h3 a (by simp)), wf_i64 (h3 b (by simp)), wf_i64 (h3 c (by simp))⟩
theorem arr4_of {w : World} {cs : Array Value} {l : List Int} (h : (rArr 4).rel w cs.toList l) : ∃ a b c d : Int, cs = #[.int .i64 a, .int .i64 b, .int .i64 c, .int .i64 d] ∧ (-9223372036854775808 ≤ a ∧ a ≤ 9223372036854775807) ∧ (-9223372036854775808 ≤ b ∧ b ≤ 9223372036854775807) ∧ (-9223372036854775808 ≤ c ∧ c ≤ 9223372036854775807) ∧ (-9223372036854775808 ≤ d ∧ d ≤ 9223372036854775807) := by
  obtain ⟨h1, h2, h3⟩ := h
  obtain ⟨cs⟩ := cs
  match l, h2 with
  | [a, b, c, d], _ => exact ⟨a, b, c, d, by simpa using h1, wf_i64 (h3 a (by simp)), wf_i64 (h3 b (by simp)), wf_i64 (h3 c (by simp)), wf_i64 (h3 d (by simp))⟩

end Go.Proofs.Ytaocgmkcjemecaa
