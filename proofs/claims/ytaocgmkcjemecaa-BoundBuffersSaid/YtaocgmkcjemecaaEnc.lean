/- Data that came in as the interpreter's values; a call of the interpreter as the program's call. Parts of the proofs of the laws. Conditions: none. -/
import Derived.Test.YtaocgmkcjemecaaAbsR
import Derived.Test.YtaocgmkcjemecaaUnit
namespace Go.Proofs.Ytaocgmkcjemecaa
open Go.RowKit
set_option linter.unusedVariables false
set_option linter.unusedSimpArgs false

/-- The cells that there are. -/
def SAll (w : World) (b o : Nat) : Prop := ∃ u, w.cell? ⟨b, o, none⟩ = some u

/-- Cells that read as a thing stand for its interpreter's cells. -/
def Enc {α : Type} (r : Rd α) (enc : α → List AV) : Prop := ∀ (w : World) (cs : List Value) (x : α), r.rel w cs x → Reps (SAll w) w [] [] (enc x) cs ∧ Ones cs

theorem enc_int (k : IntKind) : Enc (rInt k) (fun n => [.int k n]) := by
  rintro w cs x ⟨rfl, h⟩
  exact ⟨.cons _ _ _ _ _ _ (.int _ _ _ _ h) (.nil _ _), by intro v hv; simp at hv; subst hv; rfl⟩
theorem enc_bool : Enc rBool (fun b => [.bool b]) := by
  rintro w cs x rfl
  exact ⟨.cons _ _ _ _ _ _ (.bool _ _ _) (.nil _ _), by intro v hv; simp at hv; subst hv; rfl⟩
theorem enc_str : Enc rStr (fun s => [.str s]) := by
  rintro w cs x ⟨rfl, h⟩
  exact ⟨.cons _ _ _ _ _ _ (.str _ _ _ h) (.nil _ _), by intro v hv; simp at hv; subst hv; rfl⟩
theorem enc_pair {α β : Type} {r : Rd α} {s : Rd β} {f : α → List AV} {g : β → List AV} (hf : Enc r f) (hg : Enc s g) : Enc (rPair r s) (fun x => f x.1 ++ g x.2) := by
  rintro w cs x ⟨h1, h2⟩
  obtain ⟨a1, a2⟩ := hf _ _ _ h1
  obtain ⟨b1, b2⟩ := hg _ _ _ h2
  have := a1.append b1
  rw [List.take_append_drop] at this
  refine ⟨this, fun v hv => ?_⟩
  rw [← List.take_append_drop r.size cs, List.mem_append] at hv
  exact hv.elim (a2 v) (b2 v)
theorem enc_map {α β : Type} {r : Rd α} {f : α → β} {g : α → List AV} {g' : β → List AV} (he : ∀ x, g' (f x) = g x) (h : Enc r g) : Enc (rMap f r) g' := by
  rintro w cs x ⟨y, h1, rfl⟩
  rw [he]; exact h _ _ _ h1
theorem repss_of {S : Nat → Nat → Prop} {w : World} : ∀ {els : List (List AV)} {vss : List (List Value)}, els.length = vss.length → (∀ (k : Nat) (el : List AV) (vs : List Value), els[k]? = some el → vss[k]? = some vs → Reps S w [] [] el vs ∧ Ones vs) → Repss S w els vss
  | [], [], _, _ => .nil
  | el :: els, vs :: vss, hl, h => .cons _ _ _ _ (h 0 el vs rfl rfl).1 (h 0 el vs rfl rfl).2 (repss_of (by simpa using hl) fun k a b h1 h2 => h (k + 1) a b (by simpa using h1) (by simpa using h2))
theorem enc_slice {α : Type} {r : Rd α} {f : α → List AV} (hf : Enc r f) : Enc (rSlice r) (fun l => [.sl r.size (l.map f)]) := by
  rintro w cs l ⟨a, cap, rfl, hc, hi⟩
  obtain ⟨vss, hlen, hv⟩ := list_of (n := l.length) (p := fun k cs' => ∃ hk : k < l.length, ∃ b off, a = some ⟨b, off, none⟩ ∧ cs'.length = r.size ∧ (∀ j u, cs'[j]? = some u → w.cell? ⟨b, off + k * r.size + j, none⟩ = some u) ∧ r.rel w cs' l[k]) (fun k hk => by
    obtain ⟨b, off, cs', h⟩ := hi k hk
    exact ⟨cs', hk, b, off, h⟩)
  have hrep : Repss (SAll w) w (l.map f) vss := by
    refine repss_of (by rw [List.length_map, hlen]) fun k el vs h1 h2 => ?_
    obtain ⟨hk2, rfl⟩ := List.getElem?_eq_some_iff.1 h2
    obtain ⟨hk, b, off, _, _, _, h6⟩ := hv k hk2
    rw [List.getElem?_map, List.getElem?_eq_getElem hk] at h1
    simp at h1; subst h1
    exact hf _ _ _ h6
  refine ⟨.cons _ _ _ _ _ _ ?_ (.nil _ _), by intro v hv; simp at hv; subst hv; rfl⟩
  have := Rep.sl (S := SAll w) (w := w) [] [] r.size (l.map f) vss a cap hrep ⟨fun vs hm => ?_, fun j vs t u h1 h2 => ?_⟩ (by rw [List.length_map]; exact hc)
  · rw [List.length_map] at this; exact this
  · obtain ⟨k, hk, rfl⟩ := List.getElem_of_mem hm
    obtain ⟨_, _, _, _, h, _⟩ := hv k hk
    exact h
  · obtain ⟨hk2, rfl⟩ := List.getElem?_eq_some_iff.1 h1
    obtain ⟨hk, b, off, h4, h5, h6, _⟩ := hv j hk2
    exact ⟨b, off, h4, ⟨u, h6 t u h2⟩, h6 t u h2⟩

/-- What is asked of a law's call. -/
def LawOk (W : World) (e : Ending) (w' : World) : Prop := e = .returned (.bool true) ∧ Below W.heap.size W w'
/-- A law's call, by the interpreter. -/
theorem law_calls {X : Ext} (hX : SoundExt Try.prog X) {n : Nat} {g : FuncId} {args : List AV} {W : World} {vs : List Value} (h : callN Try.prog HH X n g args [] = some (.bool true, [])) (hr : Reps (SAll W) W [] [] args vs) : Calls Try.prog g vs.toArray W fun e w' => e = .returned (.bool true) ∧ Below W.heap.size W w' := by
  refine (cN_sound hX n false g args [] _ _ h W.heap.size (SAll W) W [] vs ⟨rfl, Nat.le_refl _, fun _ _ h => h, fun id o ho => by simp at ho, fun i j b hi => by simp [blockAt] at hi⟩ hr).mono ?_
  rintro e w' ⟨u, S', φ', rfl, hu, _, ht⟩
  exact ⟨by rw [hu.bool_inv], ht.below⟩
/-- A known contract that yields a fixed value of one cell. -/
theorem SAll.ext {w w' : World} (hb : Below w.heap.size w w') : SExt (SAll w) w (SAll w') w' := by
  rintro b o ⟨u, hu⟩
  have h1 := cell_lt hu
  have := hb.cell (p := ⟨b, o, none⟩) h1
  exact ⟨⟨u, by rw [this]; exact hu⟩, this⟩
theorem sext_below {S : Nat → Nat → Prop} {w w' : World} (hc : ∀ b o, S b o → ∃ u, w.cell? ⟨b, o, none⟩ = some u) (hb : Below w.heap.size w w') : SExt S w S w' ∧ ∀ b o, S b o → ∃ u, w'.cell? ⟨b, o, none⟩ = some u := by
  have key : ∀ b o, S b o → w'.cell? ⟨b, o, none⟩ = w.cell? ⟨b, o, none⟩ := fun b o h => by
    obtain ⟨u, hu⟩ := hc b o h
    exact hb.cell (p := ⟨b, o, none⟩) (cell_lt hu)
  exact ⟨fun b o h => ⟨h, key b o h⟩, fun b o h => by rw [key b o h]; exact hc b o h⟩
end Go.Proofs.Ytaocgmkcjemecaa
