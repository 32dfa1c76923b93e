/- The interpreter is sound: rows for nil slices, loops, calls. Parts of the proofs of the laws. Conditions: none. -/
import Derived.Test.YtaocgmkcjemecaaAbsN
namespace Go.Proofs.Ytaocgmkcjemecaa
open Go.RowKit
set_option linter.unusedVariables false
set_option linter.unusedSimpArgs false

section
variable {P : Program}

/-- Cells whose nil slices have become rows with numbers from a to b. -/
def Upped (a b : Nat) (l l' : List AV) : Prop := l'.length = l.length ∧ ∀ (i : Nat) (x : AV), l'[i]? = some x → l[i]? = some x ∨ (l[i]? = some AV.nils ∧ ∃ id, x = AV.row id 0 ∧ a ≤ id ∧ id < b)
theorem Upped.cons {a b : Nat} {l l' : List AV} {x y : AV} (h : Upped a b l l') (hx : y = x ∨ (x = .nils ∧ ∃ id, y = .row id 0 ∧ a ≤ id ∧ id < b)) : Upped a b (x :: l) (y :: l') := by
  refine ⟨by simp [h.1], fun i z hz => ?_⟩
  cases i with
  | zero =>
    simp at hz; subst hz
    rcases hx with rfl | ⟨rfl, h⟩
    · exact .inl rfl
    · exact .inr ⟨rfl, h⟩
  | succ i => simpa using h.2 i z (by simpa using hz)
theorem Upped.mono {a b a' b' : Nat} {l l' : List AV} (h : Upped a b l l') (ha : a' ≤ a) (hb : b ≤ b') : Upped a' b' l l' :=
  ⟨h.1, fun i x hx => (h.2 i x hx).imp id fun ⟨e, id, e1, e2, e3⟩ => ⟨e, id, e1, by omega, by omega⟩⟩
theorem Upped.refl (a b : Nat) (l : List AV) : Upped a b l l := ⟨rfl, fun i x h => .inl h⟩

def NilRows (P : Program) (l : List Ob) : Prop := ∀ o ∈ l, ∃ e, o = .row e (P.cellsOf e) [] ∧ 0 < P.cellsOf e

theorem upsCells_spec : ∀ (ts : List TypeId) (l : List AV) (n : Nat), Upped n (n + (upsCells P n ts l).2.length) l (upsCells P n ts l).1 ∧ NilRows P (upsCells P n ts l).2 := by
  intro ts
  induction ts with
  | nil => intro l n; cases l <;> exact ⟨.refl _ _ _, fun o h => by simp [upsCells] at h⟩
  | cons t ts ih =>
    intro l n
    cases l with
    | nil => exact ⟨.refl _ _ _, fun o h => by simp [upsCells] at h⟩
    | cons x l =>
      have other : (∀ y, x = y → upsCells P n (t :: ts) (x :: l) = (x :: (upsCells P n ts l).1, (upsCells P n ts l).2)) → Upped n (n + (upsCells P n (t :: ts) (x :: l)).2.length) (x :: l) (upsCells P n (t :: ts) (x :: l)).1 ∧ NilRows P (upsCells P n (t :: ts) (x :: l)).2 := fun h => by
        rw [h x rfl]
        exact ⟨(ih l n).1.cons (.inl rfl), (ih l n).2⟩
      cases x <;> first | exact other (fun _ _ => rfl) | skip
      cases he : elemOf P t with
      | none => exact other fun _ _ => by simp only [upsCells, he]
      | some e =>
        cases hz : decide (0 < P.cellsOf e) with
        | false => exact other fun _ _ => by simp only [upsCells, he, hz]
        | true =>
          have heq : upsCells P n (t :: ts) (.nils :: l) = (.row n 0 :: (upsCells P (n + 1) ts l).1, .row e (P.cellsOf e) [] :: (upsCells P (n + 1) ts l).2) := by simp only [upsCells, he, hz]
          rw [heq]
          obtain ⟨h1, h2⟩ := ih l (n + 1)
          refine ⟨(h1.mono (by omega) (by simp only [List.length_cons]; omega)).cons (.inr ⟨rfl, n, rfl, Nat.le_refl _, by simp only [List.length_cons]; omega⟩), fun o ho => ?_⟩
          rcases List.mem_cons.1 ho with rfl | ho
          · exact ⟨e, rfl, of_decide_eq_true hz⟩
          · exact h2 o ho

def UppedOb (a b : Nat) : Ob → Ob → Prop
  | .var t cs, o => ∃ cs', o = .var t cs' ∧ Upped a b cs cs'
  | o, o' => o' = o
theorem UppedOb.mono {a b a' b' : Nat} {o o' : Ob} (h : UppedOb a b o o') (ha : a' ≤ a) (hb : b ≤ b') : UppedOb a' b' o o' := by
  cases o with
  | var t cs => obtain ⟨cs', h1, h2⟩ := h; exact ⟨cs', h1, h2.mono ha hb⟩
  | row _ _ _ => exact h
  | arr _ _ => exact h
theorem upsObs_spec : ∀ (l : List Ob) (n : Nat), (upsObs P n l).1.length = l.length ∧ (∀ (i : Nat) o', (upsObs P n l).1[i]? = some o' → ∃ o, l[i]? = some o ∧ UppedOb n (n + (upsObs P n l).2.length) o o') ∧ NilRows P (upsObs P n l).2 := by
  intro l
  induction l with
  | nil => intro n; exact ⟨rfl, fun i o h => by simp [upsObs] at h, fun o h => by simp [upsObs] at h⟩
  | cons o l ih =>
    intro n
    have other : upsObs P n (o :: l) = (o :: (upsObs P n l).1, (upsObs P n l).2) → UppedOb n (n + (upsObs P n (o :: l)).2.length) o o → (upsObs P n (o :: l)).1.length = (o :: l).length ∧ (∀ (i : Nat) o', (upsObs P n (o :: l)).1[i]? = some o' → ∃ q, (o :: l)[i]? = some q ∧ UppedOb n (n + (upsObs P n (o :: l)).2.length) q o') ∧ NilRows P (upsObs P n (o :: l)).2 := fun h hu => by
      rw [h] at hu ⊢
      obtain ⟨h1, h2, h3⟩ := ih n
      refine ⟨by simp [h1], fun i o' ho => ?_, h3⟩
      cases i with
      | zero => simp at ho; subst ho; exact ⟨_, rfl, hu⟩
      | succ i => exact h2 i o' (by simpa using ho)
    cases o with
    | row _ _ _ => exact other rfl rfl
    | arr _ _ => exact other rfl rfl
    | var t cs =>
      obtain ⟨c1, c2⟩ := upsCells_spec (P := P) (cellTys P 6 t) cs n
      obtain ⟨h1, h2, h3⟩ := ih (n + (upsCells P n (cellTys P 6 t) cs).2.length)
      refine ⟨by simp [upsObs, h1], fun i o' ho => ?_, fun o ho => ?_⟩
      · cases i with
        | zero =>
          simp [upsObs] at ho; subst ho
          exact ⟨_, rfl, _, rfl, c1.mono (Nat.le_refl _) (by simp [upsObs])⟩
        | succ i =>
          obtain ⟨q, e1, e2⟩ := h2 i o' (by simpa [upsObs] using ho)
          exact ⟨q, e1, e2.mono (by omega) (by simp [upsObs]; omega)⟩
      · simp only [upsObs] at ho
        rcases List.mem_append.1 ho with ho | ho
        · exact c2 o ho
        · exact h3 o ho

theorem ups_sound {base : Nat} {S : Nat → Nat → Prop} {w : World} {hp : Hp} {φ : List Pl} (b : Bool) (hs : Sim P base S w hp φ) : ∃ φ', Sim P base S w (upsHp P b hp) φ' ∧ Trans base S w hp φ S w (upsHp P b hp) φ' := by
  cases b with
  | false => exact ⟨φ, hs, .refl _ _ _ _ _⟩
  | true =>
    obtain ⟨h1, h2, h3⟩ := upsObs_spec (P := P) hp hp.length
    simp only [upsHp]
    generalize (upsObs P hp.length hp).1 = L1 at *
    generalize (upsObs P hp.length hp).2 = L2 at *
    refine ⟨φ ++ L2.map fun _ => .sv (.slice none 0 0), ?_⟩
    have hφl := hs.len
    have old : ∀ id o', id < hp.length → (L1 ++ L2)[id]? = some o' → ∃ o, hp[id]? = some o ∧ UppedOb hp.length (hp.length + L2.length) o o' := fun id o' hid ho => by
      rw [List.getElem?_append_left (by omega)] at ho
      exact h2 id o' ho
    have new : ∀ id, hp.length ≤ id → id < hp.length + L2.length → ∃ e, (L1 ++ L2)[id]? = some (.row e (P.cellsOf e) []) ∧ 0 < P.cellsOf e ∧ (φ ++ L2.map fun _ => Pl.sv (.slice none 0 0))[id]? = some (.sv (.slice none 0 0)) := fun id i1 i2 => by
      have hlt : id - hp.length < L2.length := by omega
      obtain ⟨e, e1, e2⟩ := h3 L2[id - hp.length] (List.getElem_mem hlt)
      refine ⟨e, ?_, e2, ?_⟩
      · rw [List.getElem?_append_right (by omega), h1, List.getElem?_eq_getElem hlt, e1]
      · rw [List.getElem?_append_right (by omega), hφl, List.getElem?_map, List.getElem?_eq_getElem hlt]; rfl
    have hφold : ∀ id, id < hp.length → (φ ++ L2.map fun _ => Pl.sv (.slice none 0 0))[id]? = φ[id]? := fun id hid => List.getElem?_append_left (by omega)
    have same : ∀ id o, hp[id]? = some o → (∀ t cs, o ≠ Ob.var t cs) → (L1 ++ L2)[id]? = some o := fun id o ho hne => by
      have hid := nth?_lt ho
      obtain ⟨o', ho'⟩ : ∃ o', (L1 ++ L2)[id]? = some o' := ⟨_, List.getElem?_eq_getElem (by simp; omega)⟩
      obtain ⟨q, e1, e2⟩ := old id o' hid ho'
      rw [ho] at e1; cases e1
      cases o with
      | var t cs => exact absurd rfl (hne t cs)
      | row _ _ _ => rw [ho', show o' = _ from e2]
      | arr _ _ => rw [ho', show o' = _ from e2]
    have hE : HpExt hp φ (L1 ++ L2) (φ ++ L2.map fun _ => .sv (.slice none 0 0)) := by
      refine ⟨fun id b h => ?_, fun id size els h => ⟨els, ?_, rfl⟩, fun id e size els h => ⟨[], ?_, fun _ v hv => ?_⟩⟩
      · rw [hφold id (by have := nth?_lt h; omega)]; exact h
      · rw [nth?_eq] at h ⊢; exact same id _ h (fun _ _ e => by cases e)
      · rw [nth?_eq] at h ⊢; rw [List.append_nil]; exact same id _ h (fun _ _ e => by cases e)
      · rw [hφold id (by have := nth?_lt hv; omega)]; exact hv
    have hat : ∀ i b, blockAt (φ ++ L2.map fun _ => Pl.sv (.slice none 0 0)) i = some b → blockAt φ i = some b := by
      intro i b h
      unfold blockAt at h ⊢
      rcases Nat.lt_or_ge i hp.length with hi | hi
      · rw [hφold i hi] at h; exact h
      · rw [List.getElem?_append_right (by omega), List.getElem?_map] at h
        cases hL : L2[i - φ.length]? with
        | none => rw [hL] at h; simp at h
        | some q => rw [hL] at h; simp [Value.ownBlock] at h
    refine ⟨⟨by simp [hφl, h1], hs.low, hs.cell, fun id o' ho => ?_, fun i j b hi hj => hs.apart i j b (hat i b hi) (hat j b hj)⟩, ⟨.refl _ _, hE, .refl _ _, fun _ _ h => .inl h⟩⟩
    rcases Nat.lt_or_ge id hp.length with hid | hid
    · obtain ⟨o, e1, e2⟩ := old id o' hid ho
      have hok := (hs.obj id o e1).keep (S' := S) (w' := w) (.refl _ _) hE (hφold id hid) fun b hb => ⟨rfl, fun _ => .rfl⟩
      cases o with
      | row _ _ _ => rw [show o' = _ from e2]; exact hok
      | arr _ _ => rw [show o' = _ from e2]; exact hok
      | var t cs =>
        obtain ⟨cs', rfl, hu⟩ := e2
        obtain ⟨b, vs, E, g1, g2, g3, g4, g5, g6⟩ := hok
        refine ⟨b, vs, E, g1, g2, g3, Reps.of (by rw [hu.1, g4.length]) (fun i x v hx hv => ?_), g5, g6⟩
        rcases hu.2 i x hx with hx' | ⟨hx', rid, rfl, r1, r2⟩
        · obtain ⟨v', e1, e2⟩ := g4.get' hx'
          rw [hv] at e1; cases e1
          exact e2
        · obtain ⟨v', e1, e2⟩ := g4.get' hx'
          rw [hv] at e1; cases e1
          have := e2.nils_inv
          subst this
          obtain ⟨e, n1, n2, n3⟩ := new rid r1 r2
          exact .row _ _ rid 0 _ e (P.cellsOf e) [] (by rw [nth?_eq]; exact n1) (Nat.le_refl _) (.sl _ _ _ [] [] none 0 .nil ⟨by simp, fun j vs t u hj => by simp at hj⟩ ⟨Nat.le_refl _, by unfold maxLen; omega, fun _ => rfl⟩) fun _ => n3
    · obtain ⟨e, n1, n2, n3⟩ := new id hid (by have := nth?_lt ho; simp at this; omega)
      rw [ho] at n1; cases n1
      exact ⟨.slice none 0 0, [], n3, World.ownsRow_nil w base e _, .nil, by simp, n2, rfl, fun g hg => by simp [Value.ownBlock] at hg⟩
end
end Go.Proofs.Ytaocgmkcjemecaa
