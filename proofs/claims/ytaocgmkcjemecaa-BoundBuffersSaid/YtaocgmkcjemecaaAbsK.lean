/- The interpreter is sound: regions in one order, and what is left of values. Parts of the proofs of the laws. Conditions: none. -/
import Derived.Test.YtaocgmkcjemecaaAbsJ
namespace Go.Proofs.Ytaocgmkcjemecaa
open Go.RowKit
set_option linter.unusedVariables false
set_option linter.unusedSimpArgs false

section
variable {S : Nat → Nat → Prop} {w : World} {hp : Hp} {φ : List Pl} {P : Program} {base : Nat} {H : Hints} {call : CallT} {f : FuncId} {ops : Array Oper} {tm : Tm} {ρ : Type} {r : ρ}

theorem reps_put {a : Act} (h : Reps S w hp φ tm a.tmps.toList) (d : Option Tmp) {v : AV} {u : Value} (hv : Rep S w hp φ v u) : Reps S w hp φ (put tm d v) (a.put d u).tmps.toList := by
  cases d with
  | none => exact h
  | some d =>
    simp only [put, Act.put, setNth_eq, Array.toList_setIfInBounds]
    exact h.set d hv
theorem put_defers (a : Act) (d : Option Tmp) (u : Value) : (a.put d u).defers = a.defers := by cases d <;> rfl

theorem yielded_of {a : Act} (h : Reps S w hp φ tm a.tmps.toList) {j t : Nat} (hj : (nth? ops.toList j).bind (·.dst) = some t) {b : Bool} (hb : nth .junk tm t = .bool b) : yielded ops a.tmps j = some b := by
  rw [nth?_eq] at hj
  have h1 : (ops[j]?).bind (·.dst) = some t := by simpa using hj
  rw [nth_eq] at hb
  cases ht : tm[t]? with
  | none => rw [ht] at hb; cases hb
  | some av =>
    rw [ht] at hb
    simp only [Option.getD_some] at hb
    subst hb
    obtain ⟨v, hv, hr⟩ := h.get' ht
    have := hr.bool_inv
    subst this
    have h2 : a.tmps[t]? = some (.bool b) := by simpa using hv
    simp [yielded, h1, h2]

theorem yielded_undef {a : Act} (h : Reps S w hp φ tm a.tmps.toList) {j t : Nat} (hj : (nth? ops.toList j).bind (·.dst) = some t) (hb : nth .junk tm t = .tup []) : yielded ops a.tmps j = none := by
  rw [nth?_eq] at hj
  have h1 : (ops[j]?).bind (·.dst) = some t := by simpa using hj
  rw [nth_eq] at hb
  cases ht : tm[t]? with
  | none => rw [ht] at hb; cases hb
  | some av =>
    rw [ht] at hb
    simp only [Option.getD_some] at hb
    subst hb
    obtain ⟨v, hv, hr⟩ := h.get' ht
    obtain ⟨vs, h3, rfl⟩ := hr.tup_inv
    cases h3
    have h2 : a.tmps[t]? = some (.tuple #[]) := by simpa using hv
    simp [yielded, h1, h2]

/-- One operation, with its guard. -/
theorem oper_sound (hH : GoodH P H) (hc : SoundCall P H call) {o : Oper} {a : Act} (hs : Sim P base S w hp φ) (ht : Reps S w hp φ tm a.tmps.toList) {C : Tm → Hp → Option ρ}
    (h : (match o.guard with
      | none => stepV P H call f o tm hp fun v hp => putK tm o.dst v fun tm => C tm hp
      | some (j, want) => match (nth? ops.toList j).bind (·.dst) with
        | none => none
        | some t => match nth .junk tm t with
          | .bool b => match want with
            | true => bif b then stepV P H call f o tm hp (fun v hp => putK tm o.dst v fun tm => C tm hp) else (putK tm o.dst (.tup []) fun tm => C tm hp)
            | false => bif b then (putK tm o.dst (.tup []) fun tm => C tm hp) else stepV P H call f o tm hp (fun v hp => putK tm o.dst v fun tm => C tm hp)
          | .tup [] => putK tm o.dst (.tup []) fun tm => C tm hp
          | _ => none) = some r)
    {next : Act → World → Prop} {Q : Exit → Act → World → Prop}
    (hn : ∀ tm' hp' S' φ' a' w', C tm' hp' = some r → Reps S' w' hp' φ' tm' a'.tmps.toList → Sim P base S' w' hp' φ' → Trans base S w hp φ S' w' hp' φ' → a'.defers = a.defers → next a' w') :
    if Region.wanted o (yielded ops a.tmps) then o.wp P a w next Q else next (a.put o.dst undef) w := by
  have hev := fun x => ev_rep ht x
  have yes : stepV P H call f o tm hp (fun v hp => putK tm o.dst v fun tm => C tm hp) = some r → o.wp P a w next Q := fun h => by
    refine stepV_sound hH hc hs hev h fun v hp' u S' φ' w' h1 h2 h3 h4 => ?_
    rw [putK_eq] at h1
    exact hn _ hp' S' φ' _ w' h1 (reps_put (Reps.mono h4.s ht h4.hp) o.dst h2) h3 h4 (put_defers _ _ _)
  have no : (putK tm o.dst (.tup []) fun tm => C tm hp) = some r → next (a.put o.dst undef) w := fun h => by
    rw [putK_eq] at h
    exact hn _ hp S φ _ w h (reps_put ht o.dst (.tup _ _ [] [] (.nil _ _))) hs (.refl _ _ _ _ _) (put_defers _ _ _)
  cases hg : o.guard with
  | none =>
    rw [hg] at h
    rw [if_pos (by simp [Region.wanted, hg])]
    exact yes h
  | some p =>
    obtain ⟨j, want⟩ := p
    rw [hg] at h
    simp only at h
    cases hj : (nth? ops.toList j).bind (·.dst) with
    | none => rw [hj] at h; cases h
    | some t =>
      rw [hj] at h
      simp only at h
      cases hb : nth .junk tm t <;> rw [hb] at h <;> first | (cases h; done) | skip
      case tup l =>
        cases l with
        | cons _ _ => cases h
        | nil =>
          have hy := yielded_undef (ops := ops) ht hj hb
          have hw : Region.wanted o (yielded ops a.tmps) = false := by simp [Region.wanted, hg, hy]
          rw [hw, if_neg (by decide)]
          exact no h
      simp only at h
      rename_i b
      have hy := yielded_of (ops := ops) ht hj hb
      have hw : Region.wanted o (yielded ops a.tmps) = (b == want) := by simp [Region.wanted, hg, hy]
      rw [hw]
      cases want <;> cases b <;> simp only [cond_true, cond_false] at h
      · rw [if_pos (by decide)]; exact yes h
      · rw [if_neg (by decide)]; exact no h
      · rw [if_neg (by decide)]; exact no h
      · rw [if_pos (by decide)]; exact yes h

theorem runOps_sound (hH : GoodH P H) (hc : SoundCall P H call) {Q : Exit → Act → World → Prop} : ∀ (l : List Oper) (S : Nat → Nat → Prop) (w : World) (hp : Hp) (φ : List Pl) (tm : Tm) (a : Act) (K : Tm → Hp → Option ρ), Sim P base S w hp φ → Reps S w hp φ tm a.tmps.toList → runOps P H call f ops.toList l tm hp K = some r →
    (∀ tm' hp' S' φ' a' w', K tm' hp' = some r → Reps S' w' hp' φ' tm' a'.tmps.toList → Sim P base S' w' hp' φ' → Trans base S w hp φ S' w' hp' φ' → a'.defers = a.defers → Q .normal a' w') → wpList P ops Q l a w
  | [], S, w, hp, φ, tm, a, K, hs, ht, h, hn => hn _ _ _ _ _ _ h ht hs (.refl _ _ _ _ _) rfl
  | o :: l, S, w, hp, φ, tm, a, K, hs, ht, h, hn => by
    have := oper_sound (ops := ops) (C := fun tm hp => runOps P H call f ops.toList l tm hp K) hH hc hs ht (by
      exact h) (next := wpList P ops Q l) (Q := Q) fun tm' hp' S' φ' a' w' h1 h2 h3 h4 h5 => runOps_sound hH hc l S' w' hp' φ' tm' a' K h3 h2 h1 fun tm'' hp'' S'' φ'' a'' w'' g1 g2 g3 g4 g5 => hn _ _ _ _ _ _ g1 g2 g3 (h4.trans g4) (g5.trans h5)
    unfold wpList
    split
    · rename_i hw; rw [if_pos hw] at this; exact .inl this
    · rename_i hw; rw [if_neg hw] at this; exact this
end
end Go.Proofs.Ytaocgmkcjemecaa
