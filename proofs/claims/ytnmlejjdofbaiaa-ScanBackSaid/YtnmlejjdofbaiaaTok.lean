/- Parts of the proofs of the laws of layer 1, scan (text Tok). Conditions: none. -/
import Derived.Test.YtnmlejjdofbaiaaRd
/- Tokens, as they lie in memory. -/
namespace Go.Proofs.Ytnmlejjdofbaiaa
open Go.RowKit


structure Tok where
  kind : Int
  text : List UInt8
  n : Int
  at' : Int

def Tok.cells (t : Tok) : List Value := [.int .i64 t.kind, .string ⟨t.text.toArray⟩, .int .i64 t.n, .int .i64 t.at']
def tokCells (l : List Tok) : List Value := l.flatMap Tok.cells
theorem Tok.cells_length (t : Tok) : t.cells.length = 4 := rfl
theorem tokCells_length (l : List Tok) : (tokCells l).length = l.length * 4 := flat_length _ 4 Tok.cells_length l
theorem tokCells_at (l : List Tok) (k : Nat) (hk : k < l.length) : (tokCells l)[k * 4]? = some (.int .i64 l[k].kind) ∧ (tokCells l)[k * 4 + 1]? = some (.string ⟨l[k].text.toArray⟩) ∧ (tokCells l)[k * 4 + 2]? = some (.int .i64 l[k].n) ∧ (tokCells l)[k * 4 + 3]? = some (.int .i64 l[k].at') :=
  ⟨flat_at _ 4 Tok.cells_length l k hk 0 (by omega), flat_at _ 4 Tok.cells_length l k hk 1 (by omega), flat_at _ 4 Tok.cells_length l k hk 2 (by omega), flat_at _ 4 Tok.cells_length l k hk 3 (by omega)⟩

def rTok : Rd Tok := rMap (fun x => ⟨x.1, x.2.1, x.2.2.1, x.2.2.2⟩) (rPair (rInt .i64) (rPair rStr (rPair (rInt .i64) (rInt .i64))))
theorem rTok_rel (w : World) (cs : List Value) (t : Tok) (h : rTok.rel w cs t) : cs = t.cells := by
  obtain ⟨x, ⟨⟨h1, _⟩, ⟨h2, _⟩, ⟨h3, _⟩, h4, _⟩, rfl⟩ := h
  simp only [rInt, rStr, List.drop_drop] at h1 h2 h3 h4
  have e : cs = cs.take 1 ++ ((cs.drop 1).take 1 ++ ((cs.drop (1 + 1)).take 1 ++ cs.drop (1 + (1 + 1)))) := by
    rcases cs with _ | ⟨a, _ | ⟨b, _ | ⟨c, t⟩⟩⟩ <;> simp
  rw [e, h1, h2, h3, h4]
  rfl

def Toks (w : World) (v : Value) (l : List Tok) : Prop := Arr w 4 v l.length (tokCells l)

theorem Toks.mono {w w' : World} {v : Value} {l : List Tok} (h : Toks w v l) (hb : Below w.heap.size w w') : Toks w' v l := Arr.mono h hb

/-- The address is there as soon as there is a token. -/
theorem Toks.view {w : World} {v : Value} {l : List Tok} (h : Toks w v l) :
    ∃ a cap, v = .slice a l.length cap ∧ ∀ k (hk : k < l.length), ∃ b off, a = some ⟨b, off, none⟩ ∧ w.cell? ⟨b, off + k * 4, none⟩ = some (.int .i64 l[k].kind) ∧ w.cell? ⟨b, off + k * 4 + 1, none⟩ = some (.string ⟨l[k].text.toArray⟩) ∧ w.cell? ⟨b, off + k * 4 + 2, none⟩ = some (.int .i64 l[k].n) ∧ w.cell? ⟨b, off + k * 4 + 3, none⟩ = some (.int .i64 l[k].at') := by
  obtain ⟨_, a, cap, rfl, _, hc⟩ := h
  refine ⟨a, cap, rfl, fun k hk => ?_⟩
  have ht := tokCells_at l k hk
  obtain ⟨b, off, e, h0⟩ := hc _ _ ht.1
  subst e
  refine ⟨b, off, rfl, h0, ?_, ?_, ?_⟩
  · obtain ⟨b', off', e, h⟩ := hc _ _ ht.2.1; cases e; rw [← Nat.add_assoc] at h; exact h
  · obtain ⟨b', off', e, h⟩ := hc _ _ ht.2.2.1; cases e; rw [← Nat.add_assoc] at h; exact h
  · obtain ⟨b', off', e, h⟩ := hc _ _ ht.2.2.2; cases e; rw [← Nat.add_assoc] at h; exact h

/-- Of a slice that is not empty. -/
theorem Toks.cases {w : World} {v : Value} {l : List Tok} (h : Toks w v l) :
    (True ∧ l = []) ∨ ∃ b off cap, v = .slice (some ⟨b, off, none⟩) l.length cap ∧ ∀ k (hk : k < l.length), w.cell? ⟨b, off + k * 4, none⟩ = some (.int .i64 l[k].kind) ∧ w.cell? ⟨b, off + k * 4 + 1, none⟩ = some (.string ⟨l[k].text.toArray⟩) ∧ w.cell? ⟨b, off + k * 4 + 2, none⟩ = some (.int .i64 l[k].n) ∧ w.cell? ⟨b, off + k * 4 + 3, none⟩ = some (.int .i64 l[k].at') := by
  obtain ⟨a, cap, rfl, hc⟩ := h.view
  rcases l with _ | ⟨x, t⟩
  · exact .inl ⟨trivial, rfl⟩
  · obtain ⟨b, off, rfl, _⟩ := hc 0 (by simp)
    exact .inr ⟨b, off, cap, rfl, fun k hk => let ⟨b', off', e, h⟩ := hc k hk; by cases e; exact h⟩

/-- Are two lists of tokens alike? -/
def tokEq (a b : Tok) (p : Bool) : Bool := decide (a.kind = b.kind) && decide (a.text = b.text) && decide (a.n = b.n) && (!p || decide (a.at' = b.at'))
def toksEq (p : Bool) : List Tok → List Tok → Bool
  | [], [] => true
  | a :: s, b :: t => tokEq a b p && toksEq p s t
  | _, _ => false

theorem toksEq_length (p : Bool) (a b : List Tok) (h : a.length ≠ b.length) : toksEq p a b = false := by
  induction a generalizing b with
  | nil => cases b <;> simp_all [toksEq]
  | cons x s ih => cases b with
    | nil => rfl
    | cons y t => simp [toksEq, ih t (by simpa using h)]
theorem toksEq_bad (p : Bool) (a b : List Tok) (k : Nat) (h1 : k < a.length) (h2 : k < b.length) (h : tokEq a[k] b[k] p = false) : toksEq p a b = false := by
  induction a generalizing b k with
  | nil => simp at h1
  | cons x s ih => cases b with
    | nil => rfl
    | cons y t =>
      cases k with
      | zero => simp only [List.getElem_cons_zero] at h; simp [toksEq, h]
      | succ k => simp only [List.getElem_cons_succ] at h; simp [toksEq, ih t k (by simpa using h1) (by simpa using h2) h]
theorem toksEq_good (p : Bool) (a b : List Tok) (hl : a.length = b.length) (h : ∀ k (h1 : k < a.length) (h2 : k < b.length), tokEq a[k] b[k] p = true) : toksEq p a b = true := by
  induction a generalizing b with
  | nil => cases b with
    | nil => rfl
    | cons y t => simp at hl
  | cons x s ih => cases b with
    | nil => simp at hl
    | cons y t =>
      have h0 := h 0 (by simp) (by simp)
      simp only [List.getElem_cons_zero] at h0
      simp only [toksEq, h0, Bool.true_and]
      exact ih t (by simpa using hl) fun k h1 h2 => by have := h (k + 1) (by simpa using h1) (by simpa using h2); simpa using this
theorem tokEq_refl (a : Tok) (p : Bool) : tokEq a a p = true := by simp [tokEq]
theorem toksEq_refl (p : Bool) (a : List Tok) : toksEq p a a = true := toksEq_good p a a rfl fun _ _ _ => tokEq_refl _ _

end Go.Proofs.Ytnmlejjdofbaiaa
