/- The interpreter is sound: what makes memory. Parts of the proofs of the laws. Conditions: none. -/
import Derived.Test.YtaocgmkcjemecaaAbsP1

section
namespace Go.Proofs.Ytaocgmkcjemecaa
open Go.RowKit
set_option linter.unusedVariables false
set_option linter.unusedSimpArgs false

theorem owns_same {w w' : World} {base : Nat} {e : TypeId} {size : Nat} {v : Value} {n : Nat} {xs : List Value} (h : w.ownsRow base e size v n xs) (hb : ∀ b, v.ownBlock = some b → w'.heap[b]? = w.heap[b]?) : w'.ownsRow base e size v n xs := by
  refine ⟨h.1, ?_⟩
  rcases h.2 with hn | ⟨g, cap, cur, rfl, hbg, hgg, rest⟩
  · exact .inl hn
  · exact .inr ⟨g, cap, cur, rfl, hbg, by rw [hb g rfl]; exact hgg, rest⟩

section
variable {P : Program} {base : Nat} {S S' : Nat → Nat → Prop} {w w' : World} {hp hp' : Hp} {φ φ' : List Pl}

/-- An object that is not touched. -/
theorem ObOk.keep {id : Nat} {o : Ob} (h : ObOk P base S w hp φ id o) (hS : SExt S w S' w') (hE : HpExt hp φ hp' φ') (hφ : φ'[id]? = φ[id]?) (hb : ∀ b, blockAt φ id = some b → w'.heap[b]? = w.heap[b]? ∧ ∀ o, S' b o ↔ S b o) : ObOk P base S' w' hp' φ' id o := by
  cases o with
  | var t cs =>
    obtain ⟨b, vs, E, h1, h2, h3, h4, h5, h6⟩ := h
    have hat : blockAt φ id = some b := by simp [blockAt, h1]
    exact ⟨b, vs, E, hφ.trans h1, h2, (hb b hat).1.trans h3, Reps.mono hS h4 hE, h5, fun o ho => h6 o (((hb b hat).2 o).1 ho)⟩
  | arr size els =>
    obtain ⟨b, vss, ex, E, h1, h2, h3, h4, h5, h6⟩ := h
    have hat : blockAt φ id = some b := by simp [blockAt, h1]
    exact ⟨b, vss, ex, E, hφ.trans h1, h2, (hb b hat).1.trans h3, Repss.mono hS h4, h5, fun o ho => h6 o (((hb b hat).2 o).1 ho)⟩
  | row e size els =>
    obtain ⟨v, vss, h1, h2, h3, h4, h5, h6, h7⟩ := h
    have hat : ∀ b, v.ownBlock = some b → blockAt φ id = some b := fun b hb => by simp [blockAt, h1, hb]
    exact ⟨v, vss, hφ.trans h1, owns_same h2 fun b hv => (hb b (hat b hv)).1, Repss.mono hS h3, h4, h5, h6, fun g hg o => ((hb g (hat g hg)).2 o).trans (h7 g hg o)⟩

theorem owns_low {w : World} {base base' : Nat} {e : TypeId} {size : Nat} {v : Value} {n : Nat} {xs : List Value} (h : w.ownsRow base e size v n xs) (hb : base' ≤ base) : w.ownsRow base' e size v n xs := by
  refine ⟨h.1, ?_⟩
  rcases h.2 with hn | ⟨g, cap, cur, rfl, hbg, rest⟩
  · exact .inl hn
  · exact .inr ⟨g, cap, cur, rfl, Nat.le_trans hb hbg, rest⟩
theorem nth?_lt {α : Type} {l : List α} {i : Nat} {a : α} (h : l[i]? = some a) : i < l.length := (List.getElem?_eq_some_iff.1 h).1

/-- The block of an object is there. -/
theorem Sim.block_lt (hs : Sim P base S w hp φ) {id b : Nat} (h : blockAt φ id = some b) : base ≤ b ∧ b < w.heap.size := by
  have hid : id < φ.length := by
    unfold blockAt at h
    rcases Nat.lt_or_ge id φ.length with h' | h'
    · exact h'
    · rw [List.getElem?_eq_none h'] at h; cases h
  obtain ⟨o, ho⟩ : ∃ o, hp[id]? = some o := ⟨_, List.getElem?_eq_getElem (by rw [← hs.len]; exact hid)⟩
  have hob := hs.obj id o ho
  cases o with
  | var t cs =>
    obtain ⟨b', vs, E, h1, h2, h3, _⟩ := hob
    simp [blockAt, h1] at h; subst h
    exact ⟨h2, (Array.getElem?_eq_some_iff.1 h3).1⟩
  | arr size els =>
    obtain ⟨b', vs, ex, E, h1, h2, h3, _⟩ := hob
    simp [blockAt, h1] at h; subst h
    exact ⟨h2, (Array.getElem?_eq_some_iff.1 h3).1⟩
  | row e size els =>
    obtain ⟨v, vss, h1, h2, _⟩ := hob
    simp [blockAt, h1] at h
    exact h2.lt b h

/-- The worlds of the same objects. -/
theorem Sim.keep (hs : Sim P base S w hp φ) (hS : SExt S w S' w') (hsz : w.heap.size ≤ w'.heap.size) (hc : ∀ b o, S' b o → ∃ v, w'.cell? ⟨b, o, none⟩ = some v) (hb : ∀ id b, blockAt φ id = some b → w'.heap[b]? = w.heap[b]? ∧ ∀ o, S' b o ↔ S b o) : Sim P base S' w' hp φ :=
  ⟨hs.len, Nat.le_trans hs.low hsz, hc, fun id o ho => (hs.obj id o ho).keep hS (.refl _ _) rfl (hb id), hs.apart⟩

/-- The cells of a block that was just made stay. -/
def withNew (S : Nat → Nat → Prop) (g n : Nat) : Nat → Nat → Prop := fun b o => S b o ∨ (b = g ∧ o < n)

theorem cell_alloc_old (w : World) (ob : Obj) {b o : Nat} (h : b < w.heap.size) : (w.alloc ob).cell? ⟨b, o, none⟩ = w.cell? ⟨b, o, none⟩ := World.cell?_alloc_past ob b o h

theorem Sim.drew (hs : Sim P base S w hp φ) : Sim P base S w.drew hp φ := hs.keep (w' := w.drew) (fun b o h => ⟨h, rfl⟩) (Nat.le_refl _) hs.cell fun _ _ _ => ⟨rfl, fun _ => .rfl⟩

/-- A new block that stays. -/
theorem Sim.alloc_stay (hs : Sim P base S w hp φ) (vs : Array Value) (E : TypeId) (n : Nat) (hn : n ≤ vs.size) :
    Sim P base (withNew S w.heap.size n) (w.alloc (.cells vs E)) hp φ ∧ Trans base S w hp φ (withNew S w.heap.size n) (w.alloc (.cells vs E)) hp φ ∧ ∀ j u, vs[j]? = some u → (w.alloc (.cells vs E)).cell? ⟨w.heap.size, j, none⟩ = some u := by
  have hcell : ∀ j, (w.alloc (.cells vs E)).cell? ⟨w.heap.size, j, none⟩ = vs[j]? := fun j => World.cell?_alloc_at vs E w.heap.size j rfl
  have hS : SExt S w (withNew S w.heap.size n) (w.alloc (.cells vs E)) := fun b o h => ⟨.inl h, let ⟨v, hv⟩ := hs.cell b o h; cell_alloc_old w _ (cell_lt hv)⟩
  refine ⟨hs.keep hS (by simp) ?_ ?_, ⟨hS, .refl _ _, (Below.refl _ _).alloc hs.low _, ?_⟩, fun j u h => (hcell j).trans h⟩
  · rintro b o (h | ⟨rfl, h⟩)
    · obtain ⟨v, hv⟩ := hs.cell b o h
      exact ⟨v, (cell_alloc_old w _ (cell_lt hv)).trans hv⟩
    · exact ⟨_, (hcell o).trans (Array.getElem?_eq_getElem (by omega))⟩
  · intro id b hb
    have hlt := (hs.block_lt hb).2
    exact ⟨Below.heap_alloc w _ b hlt, fun o => ⟨fun h => h.elim (fun h => h) (fun h => by omega), .inl⟩⟩
  · rintro b o (h | ⟨rfl, _⟩)
    · exact .inl h
    · exact .inr hs.low

/-- A new block for a new object. -/
theorem Sim.alloc_obj (hs : Sim P base S w hp φ) (vs : List Value) (E t : TypeId) (cs : List AV) (hr : Reps S w hp φ cs vs) (h1 : Ones vs) :
    Sim P base S (w.alloc (.cells vs.toArray E)) (hp ++ [.var t cs]) (φ ++ [.blk w.heap.size]) ∧ Trans base S w hp φ S (w.alloc (.cells vs.toArray E)) (hp ++ [.var t cs]) (φ ++ [.blk w.heap.size]) := by
  have hS : SExt S w S (w.alloc (.cells vs.toArray E)) := fun b o h => ⟨h, let ⟨v, hv⟩ := hs.cell b o h; cell_alloc_old w _ (cell_lt hv)⟩
  have hE : HpExt hp φ (hp ++ [.var t cs]) (φ ++ [.blk w.heap.size]) := by
    refine ⟨fun id b h => ?_, fun id size els h => ⟨els, ?_, rfl⟩, fun id e size els h => ⟨[], ?_, fun _ v hv => ?_⟩⟩
    · rw [List.getElem?_append_left (nth?_lt h)]; exact h
    · rw [nth?_eq] at h ⊢; rw [List.getElem?_append_left (nth?_lt h)]; exact h
    · rw [nth?_eq] at h ⊢; rw [List.getElem?_append_left (nth?_lt h), List.append_nil]; exact h
    · rw [List.getElem?_append_left (nth?_lt hv)]; exact hv
  have hat : ∀ i b, blockAt (φ ++ [.blk w.heap.size]) i = some b → (i < φ.length ∧ blockAt φ i = some b) ∨ (i = φ.length ∧ b = w.heap.size) := by
    intro i b h
    unfold blockAt at h ⊢
    rcases Nat.lt_or_ge i φ.length with hi | hi
    · rw [List.getElem?_append_left hi] at h; exact .inl ⟨hi, h⟩
    · rw [List.getElem?_append_right hi] at h
      cases hk : i - φ.length with
      | zero => rw [hk] at h; simp at h; exact .inr ⟨by omega, h.symm⟩
      | succ k => rw [hk] at h; simp at h
  refine ⟨⟨by simp [hs.len], Nat.le_trans hs.low (by simp), fun b o h => ?_, fun id o ho => ?_, fun i j b hi hj => ?_⟩, ⟨hS, hE, (Below.refl _ _).alloc hs.low _, fun b o h => .inl h⟩⟩
  · obtain ⟨v, hv⟩ := hs.cell b o h
    exact ⟨v, (cell_alloc_old w _ (cell_lt hv)).trans hv⟩
  · rcases Nat.lt_or_ge id hp.length with hi | hi
    · rw [List.getElem?_append_left hi] at ho
      refine (hs.obj id o ho).keep hS hE (List.getElem?_append_left (by rw [hs.len]; exact hi)) fun b hb => ⟨Below.heap_alloc w _ b (hs.block_lt hb).2, fun _ => .rfl⟩
    · rw [List.getElem?_append_right hi] at ho
      cases hk : id - hp.length with
      | succ k => rw [hk] at ho; simp at ho
      | zero =>
        rw [hk] at ho
        simp at ho
        subst ho
        have : id = φ.length := by rw [hs.len]; omega
        subst this
        exact ⟨w.heap.size, vs, E, by simp, hs.low, heap_alloc_new w _, Reps.mono hS hr hE, h1, fun o ho => by
          obtain ⟨v, hv⟩ := hs.cell _ _ ho
          have := cell_lt hv
          omega⟩
  · rcases hat i b hi with ⟨i1, i2⟩ | ⟨i1, i2⟩ <;> rcases hat j b hj with ⟨j1, j2⟩ | ⟨j1, j2⟩
    · exact hs.apart i j b i2 j2
    · have := (hs.block_lt i2).2; omega
    · have := (hs.block_lt j2).2; omega
    · omega

/-- A new row for a nil slice. -/
theorem Sim.nil_row (hs : Sim P base S w hp φ) (e : TypeId) (hz : 0 < P.cellsOf e) :
    Sim P base S w (hp ++ [.row e (P.cellsOf e) []]) (φ ++ [.sv (.slice none 0 0)]) ∧ Trans base S w hp φ S w (hp ++ [.row e (P.cellsOf e) []]) (φ ++ [.sv (.slice none 0 0)]) := by
  have hE : HpExt hp φ (hp ++ [.row e (P.cellsOf e) []]) (φ ++ [.sv (.slice none 0 0)]) := by
    refine ⟨fun id b h => ?_, fun id size els h => ⟨els, ?_, rfl⟩, fun id e size els h => ⟨[], ?_, fun _ v hv => ?_⟩⟩
    · rw [List.getElem?_append_left (nth?_lt h)]; exact h
    · rw [nth?_eq] at h ⊢; rw [List.getElem?_append_left (nth?_lt h)]; exact h
    · rw [nth?_eq] at h ⊢; rw [List.getElem?_append_left (nth?_lt h), List.append_nil]; exact h
    · rw [List.getElem?_append_left (nth?_lt hv)]; exact hv
  have hat : ∀ i b, blockAt (φ ++ [.sv (.slice none 0 0)]) i = some b → blockAt φ i = some b := by
    intro i b h
    unfold blockAt at h ⊢
    rcases Nat.lt_or_ge i φ.length with hi | hi
    · rw [List.getElem?_append_left hi] at h; exact h
    · rw [List.getElem?_append_right hi] at h
      cases hk : i - φ.length with
      | zero => rw [hk] at h; simp [Value.ownBlock] at h
      | succ k => rw [hk] at h; simp at h
  refine ⟨⟨by simp [hs.len], hs.low, hs.cell, fun id o ho => ?_, fun i j b hi hj => hs.apart i j b (hat i b hi) (hat j b hj)⟩, ⟨.refl _ _, hE, .refl _ _, fun b o h => .inl h⟩⟩
  rcases Nat.lt_or_ge id hp.length with hi | hi
  · rw [List.getElem?_append_left hi] at ho
    exact (hs.obj id o ho).keep (.refl _ _) hE (List.getElem?_append_left (by rw [hs.len]; exact hi)) fun b hb => ⟨rfl, fun _ => .rfl⟩
  · rw [List.getElem?_append_right hi] at ho
    cases hk : id - hp.length with
    | succ k => rw [hk] at ho; simp at ho
    | zero =>
      rw [hk] at ho
      simp at ho
      subst ho
      have : id = φ.length := by rw [hs.len]; omega
      subst this
      exact ⟨.slice none 0 0, [], by simp, World.ownsRow_nil w base e _, .nil, by simp, hz, rfl, fun g hg => by simp [Value.ownBlock] at hg⟩

/-- A new block whose row may grow. -/
theorem Sim.alloc_row (hs : Sim P base S w hp φ) {e : TypeId} {size : Nat} {els : List (List AV)} {vss : List (List Value)} (hr : Repss S w els vss) (hl : ∀ vs ∈ vss, vs.length = size) (hsz : P.cellsOf e = size) (hz : 0 < size) (hn : els.length ≤ maxLen) :
    ∃ S', Sim P base S' (w.alloc (.cells vss.flatten.toArray e)) (hp ++ [.row e size els]) (φ ++ [.sv (.slice (some ⟨w.heap.size, 0, none⟩) els.length els.length)]) ∧ Trans base S w hp φ S' (w.alloc (.cells vss.flatten.toArray e)) (hp ++ [.row e size els]) (φ ++ [.sv (.slice (some ⟨w.heap.size, 0, none⟩) els.length els.length)]) ∧
      Rep S' (w.alloc (.cells vss.flatten.toArray e)) (hp ++ [.row e size els]) (φ ++ [.sv (.slice (some ⟨w.heap.size, 0, none⟩) els.length els.length)]) (.row hp.length els.length) (.slice (some ⟨w.heap.size, 0, none⟩) els.length els.length) := by
  obtain ⟨hs', htr, hc⟩ := hs.alloc_stay vss.flatten.toArray e vss.flatten.length (by simp)
  have hlv := hr.length
  have hfl := flatten_len hl
  have hE : HpExt hp φ (hp ++ [.row e size els]) (φ ++ [.sv (.slice (some ⟨w.heap.size, 0, none⟩) els.length els.length)]) := by
    refine ⟨fun id b h => ?_, fun id size els h => ⟨els, ?_, rfl⟩, fun id e size els h => ⟨[], ?_, fun _ v hv => ?_⟩⟩
    · rw [List.getElem?_append_left (nth?_lt h)]; exact h
    · rw [nth?_eq] at h ⊢; rw [List.getElem?_append_left (nth?_lt h)]; exact h
    · rw [nth?_eq] at h ⊢; rw [List.getElem?_append_left (nth?_lt h), List.append_nil]; exact h
    · rw [List.getElem?_append_left (nth?_lt hv)]; exact hv
  have hat : ∀ i b, blockAt (φ ++ [.sv (.slice (some ⟨w.heap.size, 0, none⟩) els.length els.length)]) i = some b → (i < φ.length ∧ blockAt φ i = some b) ∨ (i = φ.length ∧ b = w.heap.size) := by
    intro i b h
    unfold blockAt at h ⊢
    rcases Nat.lt_or_ge i φ.length with hi | hi
    · rw [List.getElem?_append_left hi] at h; exact .inl ⟨hi, h⟩
    · rw [List.getElem?_append_right hi] at h
      cases hk : i - φ.length with
      | zero => rw [hk] at h; simp [Value.ownBlock] at h; exact .inr ⟨by omega, h.symm⟩
      | succ k => rw [hk] at h; simp at h
  have hrr := Repss.mono htr.s hr
  have hlaid : Laid (withNew S w.heap.size vss.flatten.length) (w.alloc (.cells vss.flatten.toArray e)) (some ⟨w.heap.size, 0, none⟩) size vss := by
    refine ⟨hl, fun j vs t u hj hu => ?_⟩
    have htl : t < size := by rw [← hl vs (List.mem_of_getElem? hj)]; exact nth?_lt hu
    have hf := flatten_at hl hj htl
    rw [hu] at hf
    refine ⟨w.heap.size, 0, rfl, .inr ⟨rfl, ?_⟩, ?_⟩
    · rw [Nat.zero_add]; exact nth?_lt hf
    · rw [Nat.zero_add]; exact hc _ _ (by simpa using hf)
  refine ⟨withNew S w.heap.size vss.flatten.length, ⟨by simp [hs.len], hs'.low, hs'.cell, fun id o ho => ?_, fun i j b hi hj => ?_⟩, ⟨htr.s, hE, htr.below, htr.new⟩, ?_⟩
  · rcases Nat.lt_or_ge id hp.length with hi | hi
    · rw [List.getElem?_append_left hi] at ho
      exact (hs'.obj id o ho).keep (.refl _ _) hE (List.getElem?_append_left (by rw [hs.len]; exact hi)) fun b hb => ⟨rfl, fun _ => .rfl⟩
    · rw [List.getElem?_append_right hi] at ho
      cases hk : id - hp.length with
      | succ k => rw [hk] at ho; simp at ho
      | zero =>
        rw [hk] at ho
        simp at ho
        subst ho
        have : id = φ.length := by rw [hs.len]; omega
        subst this
        refine ⟨_, vss, by simp, ⟨by rw [hfl, hlv], .inr ⟨w.heap.size, els.length, vss.flatten.toArray, rfl, hs.low, heap_alloc_new w _, Nat.le_refl _, hn, by simp [hfl, hlv], ?_⟩⟩, hrr, hl, hz, hsz, fun g hg o => ?_⟩
        · rw [List.take_of_length_le (by simp [hfl, hlv])]
        · simp [Value.ownBlock] at hg
          subst hg
          constructor
          · rintro (h | ⟨_, h⟩)
            · obtain ⟨v, hv⟩ := hs.cell _ _ h
              have := cell_lt hv
              omega
            · rw [hlv, ← hfl]; exact h
          · intro h; exact .inr ⟨rfl, by rw [hfl, ← hlv]; exact h⟩
  · rcases hat i b hi with ⟨i1, i2⟩ | ⟨i1, i2⟩ <;> rcases hat j b hj with ⟨j1, j2⟩ | ⟨j1, j2⟩
    · exact hs.apart i j b i2 j2
    · have := (hs.block_lt i2).2; omega
    · have := (hs.block_lt j2).2; omega
    · omega
  · refine .row _ _ hp.length els.length _ e size els (by rw [nth?_eq]; simp) (Nat.le_refl _) ?_ fun _ => by rw [← hs.len]; simp
    rw [List.take_length]
    exact .sl _ _ size els vss _ _ hrr hlaid ⟨Nat.le_refl _, hn, fun h => by cases h⟩

/-- A new block of an array that is written. -/
theorem Sim.alloc_arr (hs : Sim P base S w hp φ) {E : TypeId} {size : Nat} {els : List (List AV)} {vss : List (List Value)} (hr : Repss S w els vss) (hl : ∀ vs ∈ vss, vs.length = size) (ex : List Value) :
    Sim P base S (w.alloc (.cells (vss.flatten ++ ex).toArray E)) (hp ++ [.arr size els]) (φ ++ [.blk w.heap.size]) ∧ Trans base S w hp φ S (w.alloc (.cells (vss.flatten ++ ex).toArray E)) (hp ++ [.arr size els]) (φ ++ [.blk w.heap.size]) := by
  have hS : SExt S w S (w.alloc (.cells (vss.flatten ++ ex).toArray E)) := fun b o h => ⟨h, let ⟨v, hv⟩ := hs.cell b o h; cell_alloc_old w _ (cell_lt hv)⟩
  have hE : HpExt hp φ (hp ++ [.arr size els]) (φ ++ [.blk w.heap.size]) := by
    refine ⟨fun id b h => ?_, fun id size els h => ⟨els, ?_, rfl⟩, fun id e size els h => ⟨[], ?_, fun _ v hv => ?_⟩⟩
    · rw [List.getElem?_append_left (nth?_lt h)]; exact h
    · rw [nth?_eq] at h ⊢; rw [List.getElem?_append_left (nth?_lt h)]; exact h
    · rw [nth?_eq] at h ⊢; rw [List.getElem?_append_left (nth?_lt h), List.append_nil]; exact h
    · rw [List.getElem?_append_left (nth?_lt hv)]; exact hv
  have hat : ∀ i b, blockAt (φ ++ [.blk w.heap.size]) i = some b → (i < φ.length ∧ blockAt φ i = some b) ∨ (i = φ.length ∧ b = w.heap.size) := by
    intro i b h
    unfold blockAt at h ⊢
    rcases Nat.lt_or_ge i φ.length with hi | hi
    · rw [List.getElem?_append_left hi] at h; exact .inl ⟨hi, h⟩
    · rw [List.getElem?_append_right hi] at h
      cases hk : i - φ.length with
      | zero => rw [hk] at h; simp at h; exact .inr ⟨by omega, h.symm⟩
      | succ k => rw [hk] at h; simp at h
  refine ⟨⟨by simp [hs.len], Nat.le_trans hs.low (by simp), fun b o h => ?_, fun id o ho => ?_, fun i j b hi hj => ?_⟩, ⟨hS, hE, (Below.refl _ _).alloc hs.low _, fun b o h => .inl h⟩⟩
  · obtain ⟨v, hv⟩ := hs.cell b o h
    exact ⟨v, (cell_alloc_old w _ (cell_lt hv)).trans hv⟩
  · rcases Nat.lt_or_ge id hp.length with hi | hi
    · rw [List.getElem?_append_left hi] at ho
      refine (hs.obj id o ho).keep hS hE (List.getElem?_append_left (by rw [hs.len]; exact hi)) fun b hb => ⟨Below.heap_alloc w _ b (hs.block_lt hb).2, fun _ => .rfl⟩
    · rw [List.getElem?_append_right hi] at ho
      cases hk : id - hp.length with
      | succ k => rw [hk] at ho; simp at ho
      | zero =>
        rw [hk] at ho
        simp at ho
        subst ho
        have : id = φ.length := by rw [hs.len]; omega
        subst this
        exact ⟨w.heap.size, vss, ex, E, by simp, hs.low, heap_alloc_new w _, Repss.mono hS hr, hl, fun o ho => by
          obtain ⟨v, hv⟩ := hs.cell _ _ ho
          have := cell_lt hv
          omega⟩
  · rcases hat i b hi with ⟨i1, i2⟩ | ⟨i1, i2⟩ <;> rcases hat j b hj with ⟨j1, j2⟩ | ⟨j1, j2⟩
    · exact hs.apart i j b i2 j2
    · have := (hs.block_lt i2).2; omega
    · have := (hs.block_lt j2).2; omega
    · omega

/-- What an operation does. -/
def Acts (P : Program) (base : Nat) (S : Nat → Nat → Prop) (w : World) (hp : Hp) (φ : List Pl) (e : Operand → Value) (o : Oper) (v : AV) (hp' : Hp) : Prop :=
  ∃ u S' φ' w', ((execOp e o).run P w = .ok (.value u) w' ∨ ((execOp e o).run P w = .ok .skip w' ∧ u = undef)) ∧ Rep S' w' hp' φ' v u ∧ Sim P base S' w' hp' φ' ∧ Trans base S w hp φ S' w' hp' φ'
end

section
variable {S : Nat → Nat → Prop} {w : World} {hp : Hp} {φ : List Pl} {P : Program} {base : Nat} {e : Operand → Value} {o : Oper} {tm : Tm} {ρ : Type} {r : ρ} {K : AV → Option ρ}

theorem Gives.acts {v : AV} (h : Gives P S w hp φ e o v) (hs : Sim P base S w hp φ) : Acts P base S w hp φ e o v hp := by
  obtain ⟨u, h1, h2⟩ := h
  exact ⟨u, S, φ, w, .inl h1, h2, hs, .refl _ _ _ _ _⟩

theorem run_newVar (t : TypeId) (v : Value) : (newVar t v).run P w = .ok ⟨w.heap.size, 0, none⟩ (w.alloc (.cells v.cells t)) := by simp only [newVar, newRow, newObj, Sem.run_bind, Sem.run_pure, Result.andThen_ok, Sem.run]; rfl
theorem acts_alloc (hs : Sim P base S w hp φ) {t : TypeId} (ho : o.op = .alloc t) {z : AV} (hz : zero P t = some z) (h1 : z.cells.all AV.one = true) : Acts P base S w hp φ e o (.ptr hp.length 0) (hp ++ [.var t z.cells]) := by
  obtain ⟨i, v, hi, hzv, rfl⟩ := zero_of hz
  have hrep : Rep S w hp φ (lit v) v := lit_rep v
  obtain ⟨hs', htr⟩ := hs.alloc_obj v.cells.toList t t (lit v).cells (hrep.cells_rep h1) (hrep.cells_ones h1)
  refine ⟨.pointer (some ⟨w.heap.size, 0, none⟩), S, _, _, .inl ?_, .ptr _ _ hp.length 0 w.heap.size (by rw [← hs.len]; simp), hs', htr⟩
  have h2 : (zeroValue t).run P w = .ok v w := by simp [zeroValue, typeInfo, hi, hzv]
  simp only [execOp, ho, Instr.alloc, Sem.run_bind, Sem.run_pure, Result.andThen_ok, h2, run_newVar]

theorem acts_box (hs : Sim P base S w hp φ) (ht : ∀ x, Rep S w hp φ (ev tm x) (e x)) {t : TypeId} {x : Operand} (ho : o.op = .box t x) (h1 : (ev tm x).cells.all AV.one = true) : Acts P base S w hp φ e o (.ptr hp.length 0) (hp ++ [.var t (ev tm x).cells]) := by
  have hx := ht x
  obtain ⟨hs', htr⟩ := hs.alloc_obj (e x).cells.toList t t (ev tm x).cells (hx.cells_rep h1) (hx.cells_ones h1)
  refine ⟨.pointer (some ⟨w.heap.size, 0, none⟩), S, _, _, .inl ?_, .ptr _ _ hp.length 0 w.heap.size (by rw [← hs.len]; simp), hs', htr⟩
  simp only [execOp, ho, Instr.box, Sem.run_bind, Sem.run_pure, Result.andThen_ok, run_newVar]

theorem acts_nil (hs : Sim P base S w hp φ) (ht : ∀ x, Rep S w hp φ (ev tm x) (e x)) {x : Operand} (ho : o.op = .assign x) (hx : ev tm x = .nils) {et : TypeId} (hz : 0 < P.cellsOf et) : Acts P base S w hp φ e o (.row hp.length 0) (hp ++ [.row et (P.cellsOf et) []]) := by
  have h := ht x
  rw [hx] at h
  obtain ⟨hs', htr⟩ := hs.nil_row et hz
  refine ⟨.slice none 0 0, S, _, w, .inl (by simp [execOp, ho, h.nils_inv]), .row _ _ hp.length 0 _ et (P.cellsOf et) [] (by rw [nth?_eq]; simp) (Nat.le_refl _) ?_ ?_, hs', htr⟩
  · exact .sl _ _ _ [] [] none 0 .nil ⟨by simp, fun j vs t u hj => by simp at hj⟩ ⟨Nat.le_refl _, by unfold maxLen; omega, fun _ => rfl⟩
  · intro _; rw [← hs.len]; simp

/-- A new block whose elements stay. -/
theorem acts_new (hs : Sim P base S w hp φ) {size : Nat} {els : List (List AV)} {vss : List (List Value)} (E : TypeId) (hr : Repss S w els vss) (hl : ∀ vs ∈ vss, vs.length = size) (rest : List Value) (hn : els.length ≤ maxLen)
    (hrun : (execOp e o).run P w = .ok (.value (.slice (some ⟨w.heap.size, 0, none⟩) els.length els.length)) (w.alloc (.cells vss.flatten.toArray E))) : Acts P base S w hp φ e o (.sl size els) hp := by
  obtain ⟨hs', htr, hc⟩ := hs.alloc_stay vss.flatten.toArray E vss.flatten.length (by simp)
  refine ⟨_, _, φ, _, .inl hrun, .sl _ _ size els vss (some ⟨w.heap.size, 0, none⟩) els.length (Repss.mono htr.s hr) ⟨hl, fun j vs t u hj hu => ?_⟩ ⟨Nat.le_refl _, hn, fun h => by cases h⟩, hs', htr⟩
  have htl : t < size := by rw [← hl vs (List.mem_of_getElem? hj)]; exact nth?_lt hu
  have hf := flatten_at hl hj htl
  rw [hu] at hf
  refine ⟨w.heap.size, 0, rfl, .inr ⟨rfl, ?_⟩, ?_⟩
  · rw [Nat.zero_add]; exact nth?_lt hf
  · rw [Nat.zero_add]; exact hc _ _ (by simpa using hf)

theorem close1_rep {a a' : AV} {v : Value} (h : Rep S w hp φ a v) (hc : close1 hp a = some a') : Rep S w [] [] a' v := by
  cases a <;> simp only [close1] at hc <;> first | (cases hc; done) | skip
  case bool b => cases hc; have := h.bool_inv; subst this; exact .bool _ _ _
  case int k n => cases hc; obtain ⟨rfl, h1⟩ := h.int_inv; exact .int _ _ _ _ h1
  case str s => cases hc; obtain ⟨rfl, h1⟩ := h.str_inv; exact .str _ _ _ h1
  case nilp => cases hc; cases h; exact .nilp _ _
  case rptr el off => cases hc; obtain ⟨vs, b, ob, h1, h2, h3, rfl⟩ := h.rptr_inv; exact .rptr _ _ _ _ _ _ _ h1 h2 h3
  case nils => cases hc; have := h.nils_inv; subst this; exact .nils _ _
  case sl size els => cases hc; obtain ⟨vss, a, cap, h1, h2, h3, rfl⟩ := h.sl_inv; exact .sl _ _ _ _ _ _ _ h1 h2 h3
  case row id n =>
    obtain ⟨et, size, els, h1, h2, h3, h4⟩ := h.row_inv
    rw [h1] at hc; cases hc
    exact h3
  case func f x y =>
    cases x <;> cases y <;> simp only [close1] at hc <;> first | (cases hc; done) | skip
    cases hc
    obtain ⟨a, b, h1, h2, rfl⟩ := h.func_inv
    cases h1; cases h2
    exact .func _ _ _ _ _ _ _ (.nil _ _) (.nil _ _)
  case nilf => cases hc; cases h; exact .nilf _ _
theorem closeL_rep {l l' : List AV} {vs : List Value} (h : Reps S w hp φ l vs) (hc : closeL hp l = some l') : Reps S w [] [] l' vs := by
  induction l generalizing l' vs with
  | nil => simp only [closeL, Option.some.injEq] at hc; subst hc; cases h; exact .nil _ _
  | cons a l ih =>
    cases h with
    | cons _ _ _ v _ vs h t =>
    simp only [closeL] at hc
    cases h1 : close1 hp a with
    | none => rw [h1] at hc; cases hc
    | some a' =>
      cases h2 : closeL hp l with
      | none => rw [h1, h2] at hc; cases hc
      | some l2 => rw [h1, h2] at hc; cases hc; exact .cons _ _ _ _ _ _ (close1_rep h h1) (ih t h2)
theorem close_rep {a a' : AV} {v : Value} (h : Rep S w hp φ a v) (hc : close hp a = some a') : Rep S w [] [] a' v := by
  by_cases ha : ∃ cs, a = .agg cs
  · obtain ⟨cs, rfl⟩ := ha
    obtain ⟨vs, h1, h2, rfl⟩ := h.agg_inv
    simp only [close] at hc
    cases h3 : closeL hp cs with
    | none => rw [h3] at hc; cases hc
    | some cs' => rw [h3] at hc; cases hc; exact .agg _ _ _ _ (closeL_rep h1 h3) h2
  · have : close hp a = close1 hp a := by cases a <;> first | rfl | exact absurd ⟨_, rfl⟩ ha
    rw [this] at hc
    exact close1_rep h hc
theorem closeArgs_rep {l l' : List AV} {vs : List Value} (h : Reps S w hp φ l vs) (hc : closeArgs hp l = some l') : Reps S w [] [] l' vs := by
  induction l generalizing l' vs with
  | nil => simp only [closeArgs, Option.some.injEq] at hc; subst hc; cases h; exact .nil _ _
  | cons a l ih =>
    cases h with
    | cons _ _ _ v _ vs h t =>
    simp only [closeArgs] at hc
    cases h1 : close hp a with
    | none => rw [h1] at hc; cases hc
    | some a' =>
      cases h2 : closeArgs hp l with
      | none => rw [h1, h2] at hc; cases hc
      | some l2 => rw [h1, h2] at hc; cases hc; exact .cons _ _ _ _ _ _ (close_rep h h1) (ih t h2)

/-! ### Calls that leave their objects -/
theorem shift_at {hp hpn : Hp} (id : Nat) : nth? (hp ++ hpn.map (shiftOb hp.length)) (hp.length + id) = (nth? hpn id).map (shiftOb hp.length) := by
  rw [nth?_eq, nth?_eq, List.getElem?_append_right (by omega), show hp.length + id - hp.length = id by omega, List.getElem?_map]
theorem shift_pl {φ φn : List Pl} {n : Nat} (h : φ.length = n) (id : Nat) : (φ ++ φn)[n + id]? = φn[id]? := by
  rw [List.getElem?_append_right (by omega), show n + id - φ.length = id by omega]
theorem shifts_rep {hpn : Hp} {φn : List Pl} {g : AV → AV} (hg : ∀ a v, Rep S w hpn φn a v → Rep S w (hp ++ hpn.map (shiftOb hp.length)) (φ ++ φn) (g a) v) {l : List AV} {vs : List Value} (h : Reps S w hpn φn l vs) : Reps S w (hp ++ hpn.map (shiftOb hp.length)) (φ ++ φn) (l.map g) vs := by
  induction l generalizing vs with
  | nil => cases h; exact .nil _ _
  | cons a l ih => cases h with | cons _ _ _ v _ vs h t => exact .cons _ _ _ _ _ _ (hg a v h) (ih t)
section shift
variable {hpn : Hp} {φn : List Pl} (hl : φ.length = hp.length)
include hl
theorem shift1_rep {a : AV} {v : Value} (h : Rep S w hpn φn a v) : Rep S w (hp ++ hpn.map (shiftOb hp.length)) (φ ++ φn) (shift1 hp.length a) v := by
  cases a <;> simp only [shift1] <;> first | exact .junk _ _ _ | skip
  case bool => cases h; exact .bool _ _ _
  case int => cases h; exact .int _ _ _ _ (by assumption)
  case str => cases h; exact .str _ _ _ (by assumption)
  case nilp => cases h; exact .nilp _ _
  case ptr id off =>
    obtain ⟨b, hb, rfl⟩ := h.ptr_inv
    exact .ptr _ _ _ off b ((shift_pl hl id).trans hb)
  case pte id i off =>
    obtain ⟨b, size, els, hb, hob, rfl⟩ := h.pte_inv
    exact .pte _ _ _ i off b size els ((shift_pl hl id).trans hb) (by rw [shift_at, hob]; rfl)
  case rptr el off => obtain ⟨vs, b, ob, h1, h2, h3, rfl⟩ := h.rptr_inv; exact .rptr _ _ _ _ _ _ _ h1 h2 h3
  case nils => have := h.nils_inv; subst this; exact .nils _ _
  case sl size els => obtain ⟨vss, a, cap, h1, h2, h3, rfl⟩ := h.sl_inv; exact .sl _ _ _ _ _ _ _ h1 h2 h3
  case row id n =>
    obtain ⟨et, size, els, h1, h2, h3, h4⟩ := h.row_inv
    exact .row _ _ _ n v et size els (by rw [shift_at, h1]; rfl) h2 h3 fun hn => (shift_pl hl id).trans (h4 hn)
  case own id off n =>
    obtain ⟨b, size, els, cap, ad, hb, hob, hle, had, hc, rfl⟩ := h.own_inv
    exact .own _ _ _ off n b size els cap ((shift_pl hl id).trans hb) (by rw [shift_at, hob]; rfl) hle ad had hc
  case func f x y =>
    cases x <;> cases y <;> simp only [shift1] <;> first | exact .junk _ _ _ | skip
    obtain ⟨a, b, h1, h2, rfl⟩ := h.func_inv
    cases h1; cases h2
    exact .func _ _ _ _ _ _ _ (.nil _ _) (.nil _ _)
  case nilf => cases h; exact .nilf _ _
theorem shift2_rep {a : AV} {v : Value} (h : Rep S w hpn φn a v) : Rep S w (hp ++ hpn.map (shiftOb hp.length)) (φ ++ φn) (shift2 hp.length a) v := by
  cases a <;> simp only [shift2] <;> first | exact shift1_rep hl h | skip
  case agg cs =>
    obtain ⟨vs, h1, h2, rfl⟩ := h.agg_inv
    exact .agg _ _ _ _ (shifts_rep (fun a v h => shift1_rep hl h) h1) h2
  case func f x y =>
    obtain ⟨a, b, h1, h2, rfl⟩ := h.func_inv
    exact .func _ _ _ _ _ _ _ (shifts_rep (fun a v h => shift1_rep hl h) h1) (shifts_rep (fun a v h => shift1_rep hl h) h2)
theorem shiftV_rep {a : AV} {v : Value} (h : Rep S w hpn φn a v) : Rep S w (hp ++ hpn.map (shiftOb hp.length)) (φ ++ φn) (shiftV hp.length a) v := by
  cases a <;> simp only [shiftV] <;> first | exact shift2_rep hl h | skip
  case tup cs =>
    obtain ⟨vs, h1, rfl⟩ := h.tup_inv
    exact .tup _ _ _ _ (shifts_rep (fun a v h => shift2_rep hl h) h1)
end shift
theorem Sim.adopt {S' : Nat → Nat → Prop} {w' : World} {hpn : Hp} {φn : List Pl} {v : AV} {u : Value} (hs : Sim P base S w hp φ) (h1 : Rep S' w' hpn φn v u) (h2 : Sim P w.heap.size S' w' hpn φn) (h3 : Trans w.heap.size S w [] [] S' w' hpn φn) :
    Rep S' w' (hp ++ hpn.map (shiftOb hp.length)) (φ ++ φn) (shiftV hp.length v) u ∧ Sim P base S' w' (hp ++ hpn.map (shiftOb hp.length)) (φ ++ φn) ∧ Trans base S w hp φ S' w' (hp ++ hpn.map (shiftOb hp.length)) (φ ++ φn) := by
  have hE : HpExt hp φ (hp ++ hpn.map (shiftOb hp.length)) (φ ++ φn) := by
    refine ⟨fun id b h => ?_, fun id size els h => ⟨els, ?_, rfl⟩, fun id e size els h => ⟨[], ?_, fun _ v hv => ?_⟩⟩
    · rw [List.getElem?_append_left (nth?_lt h)]; exact h
    · rw [nth?_eq] at h ⊢; rw [List.getElem?_append_left (nth?_lt h)]; exact h
    · rw [nth?_eq] at h ⊢; rw [List.getElem?_append_left (nth?_lt h), List.append_nil]; exact h
    · rw [List.getElem?_append_left (nth?_lt hv)]; exact hv
  have hold : ∀ id b, blockAt φ id = some b → w'.heap[b]? = w.heap[b]? ∧ ∀ o, S' b o ↔ S b o := fun id b hb => by
    have hlt := (hs.block_lt hb).2
    exact ⟨h3.below.block b hlt, fun o => ⟨fun h => (h3.new b o h).elim (fun h => h) fun h => by omega, fun h => (h3.s b o h).1⟩⟩
  have hat : ∀ i b, blockAt (φ ++ φn) i = some b → (i < φ.length ∧ blockAt φ i = some b) ∨ (φ.length ≤ i ∧ blockAt φn (i - φ.length) = some b) := by
    intro i b h
    unfold blockAt at h ⊢
    rcases Nat.lt_or_ge i φ.length with hi | hi
    · rw [List.getElem?_append_left hi] at h; exact .inl ⟨hi, h⟩
    · rw [List.getElem?_append_right hi] at h; exact .inr ⟨hi, h⟩
  refine ⟨shiftV_rep hs.len h1, ⟨by simp [hs.len, h2.len], Nat.le_trans hs.low h3.below.size, h2.cell, fun id o ho => ?_, fun i j b hi hj => ?_⟩, ⟨h3.s, hE, h3.below.mono hs.low, fun b o h => (h3.new b o h).elim .inl fun h => .inr (Nat.le_trans hs.low h)⟩⟩
  · rcases Nat.lt_or_ge id hp.length with hi | hi
    · rw [List.getElem?_append_left hi] at ho
      exact (hs.obj id o ho).keep h3.s hE (List.getElem?_append_left (by rw [hs.len]; exact hi)) (hold id)
    · rw [List.getElem?_append_right hi, List.getElem?_map] at ho
      cases hob : hpn[id - hp.length]? with
      | none => rw [hob] at ho; cases ho
      | some ob =>
        rw [hob] at ho
        simp only [Option.map_some, Option.some.injEq] at ho
        subst ho
        have hok := h2.obj _ _ hob
        have hφ : (φ ++ φn)[id]? = φn[id - hp.length]? := by rw [List.getElem?_append_right (by rw [hs.len]; exact hi), hs.len]
        cases ob with
        | var t cs =>
          obtain ⟨b, vs, E, g1, g2, g3, g4, g5, g6⟩ := hok
          exact ⟨b, vs, E, hφ.trans g1, Nat.le_trans hs.low g2, g3, shifts_rep (fun a v h => shift2_rep hs.len h) g4, g5, g6⟩
        | arr size els =>
          obtain ⟨b, vss, ex, E, g1, g2, g3, g4, g5, g6⟩ := hok
          exact ⟨b, vss, ex, E, hφ.trans g1, Nat.le_trans hs.low g2, g3, g4, g5, g6⟩
        | row e size els =>
          obtain ⟨v, vss, g1, g2, g3, g4, g5, g6, g7⟩ := hok
          exact ⟨v, vss, hφ.trans g1, owns_low g2 hs.low, g3, g4, g5, g6, g7⟩
  · rcases hat i b hi with ⟨i1, i2⟩ | ⟨i1, i2⟩ <;> rcases hat j b hj with ⟨j1, j2⟩ | ⟨j1, j2⟩
    · exact hs.apart i j b i2 j2
    · have := (hs.block_lt i2).2
      have := (h2.block_lt j2).1; omega
    · have := (hs.block_lt j2).2
      have := (h2.block_lt i2).1; omega
    · have := h2.apart _ _ b i2 j2; omega

/-! ### Calls that see arrays -/
/-- The cells of the arrays too. -/
def withArr (S : Nat → Nat → Prop) (w : World) (hp : Hp) (φ : List Pl) : Nat → Nat → Prop := fun b o => S b o ∨ ∃ id size els, nth? hp id = some (.arr size els) ∧ φ[id]? = some (.blk b) ∧ ∃ u, w.cell? ⟨b, o, none⟩ = some u
theorem withArr_ext : SExt S w (withArr S w hp φ) w := fun b o h => ⟨.inl h, rfl⟩
theorem closeO1_rep (hs : Sim P base S w hp φ) {a a' : AV} {v : Value} (h : Rep S w hp φ a v) (hc : closeO1 hp a = some a') : Rep (withArr S w hp φ) w [] [] a' v := by
  by_cases ha : ∃ id off n, a = .own id off n
  · obtain ⟨id, off, n, rfl⟩ := ha
    obtain ⟨b, size, els, cap, ad, hb, hob, hle, had, hcp, rfl⟩ := h.own_inv
    simp only [closeO1, hob, Option.some.injEq] at hc
    subst hc
    obtain ⟨b', vss, ex, E', g1, g2, g3, g4, g5, g6⟩ := hs.obj id _ (by rw [← nth?_eq]; exact hob)
    rw [hb] at g1; cases g1
    have hlen : ((els.drop off).take n).length = n := by rw [List.length_take, List.length_drop]; omega
    have := Rep.sl (S := withArr S w hp φ) (w := w) [] [] size ((els.drop off).take n) ((vss.drop off).take n) ad cap (Repss.mono withArr_ext ((g4.drop off).take n)) ⟨fun vs hv => g5 vs (List.mem_of_mem_drop (List.mem_of_mem_take hv)), fun j vs t u hj hu => ?_⟩ (by rw [hlen]; exact hcp)
    · rw [hlen] at this; exact this
    · rw [List.getElem?_take] at hj
      split at hj
      · rename_i hlt
        rw [List.getElem?_drop] at hj
        have htl : t < size := by rw [← g5 vs (List.mem_of_getElem? hj)]; exact nth?_lt hu
        have hf := flatten_at g5 hj htl
        rw [hu] at hf
        have hcell : w.cell? ⟨b, (off + j) * size + t, none⟩ = some u := by
          have hx := List.getElem?_append_left (l₂ := ex) (nth?_lt hf)
          rw [hf] at hx
          simp [World.cell?, g3]; simpa using hx
        have e1 : off * size + j * size + t = (off + j) * size + t := by rw [Nat.add_mul]
        exact ⟨b, off * size, had (by omega), .inr ⟨id, size, els, hob, hb, u, by rw [e1]; exact hcell⟩, by rw [e1]; exact hcell⟩
      · cases hj
  · have : closeO1 hp a = close1 hp a := by cases a <;> first | rfl | exact absurd ⟨_, _, _, rfl⟩ ha
    rw [this] at hc
    exact Rep.mono withArr_ext (close1_rep h hc) HpExt.nil
theorem closeOL_rep (hs : Sim P base S w hp φ) {l l' : List AV} {vs : List Value} (h : Reps S w hp φ l vs) (hc : closeOL hp l = some l') : Reps (withArr S w hp φ) w [] [] l' vs := by
  induction l generalizing l' vs with
  | nil => simp only [closeOL, Option.some.injEq] at hc; subst hc; cases h; exact .nil _ _
  | cons a l ih =>
    cases h with
    | cons _ _ _ v _ vs h t =>
    simp only [closeOL] at hc
    cases h1 : closeO1 hp a with
    | none => rw [h1] at hc; cases hc
    | some a' =>
      cases h2 : closeOL hp l with
      | none => rw [h1, h2] at hc; cases hc
      | some l2 => rw [h1, h2] at hc; cases hc; exact .cons _ _ _ _ _ _ (closeO1_rep hs h h1) (ih t h2)
theorem closeO_rep (hs : Sim P base S w hp φ) {a a' : AV} {v : Value} (h : Rep S w hp φ a v) (hc : closeO hp a = some a') : Rep (withArr S w hp φ) w [] [] a' v := by
  by_cases ha : ∃ cs, a = .agg cs
  · obtain ⟨cs, rfl⟩ := ha
    obtain ⟨vs, h1, h2, rfl⟩ := h.agg_inv
    simp only [closeO] at hc
    cases h3 : closeOL hp cs with
    | none => rw [h3] at hc; cases hc
    | some cs' => rw [h3] at hc; cases hc; exact .agg _ _ _ _ (closeOL_rep hs h1 h3) h2
  · have : closeO hp a = closeO1 hp a := by cases a <;> first | rfl | exact absurd ⟨_, rfl⟩ ha
    rw [this] at hc
    exact closeO1_rep hs h hc
theorem closeOArgs_rep (hs : Sim P base S w hp φ) {l l' : List AV} {vs : List Value} (h : Reps S w hp φ l vs) (hc : closeOArgs hp l = some l') : Reps (withArr S w hp φ) w [] [] l' vs := by
  induction l generalizing l' vs with
  | nil => simp only [closeOArgs, Option.some.injEq] at hc; subst hc; cases h; exact .nil _ _
  | cons a l ih =>
    cases h with
    | cons _ _ _ v _ vs h t =>
    simp only [closeOArgs] at hc
    cases h1 : closeO hp a with
    | none => rw [h1] at hc; cases hc
    | some a' =>
      cases h2 : closeOArgs hp l with
      | none => rw [h1, h2] at hc; cases hc
      | some l2 => rw [h1, h2] at hc; cases hc; exact .cons _ _ _ _ _ _ (closeO_rep hs h h1) (ih t h2)
theorem withArr_cell (hs : Sim P base S w hp φ) : ∀ b o, withArr S w hp φ b o → ∃ u, w.cell? ⟨b, o, none⟩ = some u := by
  rintro b o (h | ⟨_, _, _, _, _, h⟩)
  · exact hs.cell b o h
  · exact h
theorem flat1_rep {S' : Nat → Nat → Prop} {w' : World} {hp' : Hp} {φ' : List Pl} {a : AV} {v : Value} (hf : flat1 a = true) (h : Rep S w hp φ a v) : Rep S' w' hp' φ' a v := by
  cases a <;> first | (cases hf; done) | skip
  case bool => cases h; exact .bool _ _ _
  case int => cases h; exact .int _ _ _ _ (by assumption)
  case str => cases h; exact .str _ _ _ (by assumption)
theorem flat_rep {S' : Nat → Nat → Prop} {w' : World} {hp' : Hp} {φ' : List Pl} {a : AV} {v : Value} (hf : flat a = true) (h : Rep S w hp φ a v) : Rep S' w' hp' φ' a v := by
  by_cases ha : ∃ cs, a = .tup cs
  · obtain ⟨cs, rfl⟩ := ha
    obtain ⟨vs, h1, rfl⟩ := h.tup_inv
    simp only [flat] at hf
    refine .tup _ _ _ _ ?_
    clear h
    induction cs generalizing vs with
    | nil => cases h1; exact .nil _ _
    | cons a l ih =>
      simp only [List.all_cons, Bool.and_eq_true] at hf
      cases h1 with | cons _ _ _ v _ vs h t => exact .cons _ _ _ _ _ _ (flat1_rep hf.1 h) (ih hf.2 vs t)
  · have : flat a = flat1 a := by cases a <;> first | rfl | exact absurd ⟨_, rfl⟩ ha
    rw [this] at hf
    exact flat1_rep hf h

theorem norm1_rep {t : TypeId} {a : AV} {v : Value} (h : Rep S w hp φ a v) : Rep S w hp φ (norm1 P t a) v := by
  cases a <;> simp only [norm1] <;> first | exact h | skip
  cases elemOf P t with
  | none => exact h
  | some e =>
    have := h.nils_inv
    subst this
    exact .sl _ _ _ [] [] none 0 .nil ⟨by simp, fun j vs t u hj => by simp at hj⟩ ⟨Nat.le_refl _, by unfold maxLen; omega, fun _ => rfl⟩
theorem norms_rep {ts : List TypeId} {l : List AV} {vs : List Value} (h : Reps S w hp φ l vs) : Reps S w hp φ (norms P ts l) vs := by
  induction ts generalizing l vs with
  | nil => cases l <;> exact h
  | cons t ts ih => cases l with
    | nil => exact h
    | cons a l => cases h with | cons _ _ _ v _ vs h t' => exact .cons _ _ _ _ _ _ (norm1_rep h) (ih t')

/-- The elements of a slice literal. -/
theorem elems_rep (ht : ∀ x, Rep S w hp φ (ev tm x) (e x)) {size : Nat} {tys : List TypeId} : ∀ (ps : List (Nat × Operand)) (k : Nat) (els : List (List AV)) (cells : List Value), elems P tys hp size tm k ps = some els → (k + ps.length) * size ≤ cells.length →
    ∃ vss, Repss S w els vss ∧ (∀ vs ∈ vss, vs.length = size) ∧ vss.length = ps.length ∧ Instr.fill (fun i => some (i * size, size)) cells.toArray (ps.map fun x => (x.1, e x.2)) = some (cells.take (k * size) ++ vss.flatten ++ cells.drop ((k + ps.length) * size)).toArray
  | [], k, els, cells, h, hl => by
    simp only [elems, Option.some.injEq] at h
    subst h
    exact ⟨[], .nil, by simp, rfl, by simp [Instr.fill]⟩
  | (i, x) :: rest, k, els, cells, h, hl => by
    simp only [elems] at h
    split at h
    · rename_i hc
      simp only [Bool.and_eq_true, decide_eq_true_eq] at hc
      obtain ⟨⟨rfl, hsz⟩, hone⟩ := hc
      cases hcl : closeL hp (norms P tys (ev tm x).cells) with
      | none => rw [hcl] at h; cases h
      | some c =>
        rw [hcl] at h
        simp only at h
        cases hrest : elems P tys hp size tm (i + 1) rest with
        | none => rw [hrest] at h; cases h
        | some l =>
          rw [hrest] at h
          cases h
          have hx := ht x
          have hcr := hx.cells_rep hone
          have hlen := hcr.length
          have hs2 : (e x).cells.size = size := by rw [← hsz, hlen]; simp
          have hmul : (i + (rest.length + 1)) * size = i * size + size + rest.length * size := by rw [Nat.add_mul, Nat.add_mul]; omega
          simp only [List.length_cons] at hl
          rw [hmul] at hl
          have hfold := fold_cells (i * size) (e x).cells cells.toArray (by rw [hs2]; simp; omega)
          have hb : (decide ((e x).cells.size ≠ size) || decide (i * size + (e x).cells.size > cells.toArray.size)) = false := by
            simp only [List.size_toArray, Bool.or_eq_false_iff, decide_eq_false_iff_not]; omega
          have hl1 : (cells.take (i * size)).length = i * size := by rw [List.length_take]; omega
          have hl2 : (e x).cells.toList.length = size := by simpa using hs2
          obtain ⟨vss, g1, g2, g3, g4⟩ := elems_rep ht rest (i + 1) l (cells.take (i * size) ++ (e x).cells.toList ++ cells.drop (i * size + size)) hrest (by
            rw [List.length_append, List.length_append, hl1, hl2, List.length_drop, Nat.add_mul, Nat.add_mul]; omega)
          refine ⟨(e x).cells.toList :: vss, .cons _ _ _ _ (closeL_rep (norms_rep hcr) hcl) (hx.cells_ones hone) g1, by simpa [hs2] using g2, by simp [g3], ?_⟩
          simp only [List.map_cons, Instr.fill, hb, Bool.false_eq_true, if_false, hfold]
          rw [hs2]
          refine g4.trans ?_
          congr 2
          have e1 : (i + 1) * size = i * size + size := by rw [Nat.add_mul]; omega
          rw [e1, List.take_append_of_le_length (by rw [List.length_append, hl1, hl2]; omega), List.take_of_length_le (l := cells.take (i * size) ++ (e x).cells.toList) (by rw [List.length_append, hl1, hl2]; omega)]
          rw [List.drop_append, List.drop_of_length_le (l := cells.take (i * size) ++ (e x).cells.toList) (by rw [List.length_append, hl1, hl2, Nat.add_mul]; omega)]
          rw [List.length_append, hl1, hl2, List.drop_drop]
          simp only [List.flatten_cons, List.nil_append, List.append_assoc, List.length_cons]
          rw [show i * size + size + ((i + 1 + rest.length) * size - (i * size + size)) = (i + (rest.length + 1)) * size by rw [hmul, Nat.add_mul, Nat.add_mul]; omega]
    · cases h
end
end Go.Proofs.Ytaocgmkcjemecaa
end

/- The interpreter is sound: slices that are made. Parts of the proofs of the laws. Conditions: none. -/
section
namespace Go.Proofs.Ytaocgmkcjemecaa
open Go.RowKit
set_option linter.unusedVariables false
set_option linter.unusedSimpArgs false

section
variable {S : Nat → Nat → Prop} {w : World} {hp : Hp} {φ : List Pl} {P : Program} {base : Nat} {e : Operand → Value} {o : Oper} {tm : Tm} {ρ : Type} {r : ρ} {K : AV → Option ρ}

/-- A slice that is made of a new block. -/
def FreshS (P : Program) (S : Nat → Nat → Prop) (w : World) (e : Operand → Value) (o : Oper) (et : TypeId) (size : Nat) (els : List (List AV)) : Prop := ∃ vss, Repss S w els vss ∧ (∀ vs ∈ vss, vs.length = size) ∧ els.length ≤ maxLen ∧
  (execOp e o).run P w = .ok (.value (.slice (some ⟨w.heap.size, 0, none⟩) els.length els.length)) (w.alloc (.cells vss.flatten.toArray et))

theorem fresh_buildSlice (hs : Sim P base S w hp φ) (ht : ∀ x, Rep S w hp φ (ev tm x) (e x)) {t et : TypeId} {ps : Array (Nat × Operand)} (ho : o.op = .buildSlice t ps.toList.length ps) (hu : P.underlying t = some (.slice et)) (hz : 0 < P.cellsOf et) (h0 : 0 < ps.toList.length) (hsz : ps.toList.length * P.cellsOf et ≤ 16777216) {z : AV} (hzero : zero P et = some z) (hzl : z.cells.length = P.cellsOf et) (hz1 : z.cells.all AV.one = true)
    {els : List (List AV)} {tys : List TypeId} (h : elems P tys hp (P.cellsOf et) tm 0 ps.toList = some els) : FreshS P S w e o et (P.cellsOf et) els := by
  obtain ⟨i, v, hi, hzv, hlit⟩ := zero_of hzero
  have hsize : (sizeOf et).run P w = .ok (P.cellsOf et) w := run_sizeOf hz
  have hrep : Rep S w hp φ z v := by rw [hlit]; exact lit_rep v
  have hvl : v.cells.size = P.cellsOf et := by
    have := (hrep.cells_rep hz1).length
    rw [hzl] at this; simpa using this.symm
  have hzr : (zeroValue et).run P w = .ok v w := by simp [zeroValue, typeInfo, hi, hzv]
  generalize hcells : (Array.range (ps.toList.length * P.cellsOf et)).map (fun k => v.cells[k % v.cells.size]!) = cells
  have hcl : cells.size = ps.toList.length * P.cellsOf et := by rw [← hcells]; simp
  obtain ⟨vss, g1, g2, g3, g4⟩ := elems_rep ht ps.toList 0 els cells.toList h (by simp [hcl])
  have hels : els.length = ps.toList.length := by rw [g1.length, g3]
  rw [Nat.zero_mul, List.take_zero, List.nil_append, Nat.zero_add, List.drop_of_length_le (by rw [Array.length_toList, hcl]; exact Nat.le_refl _), List.append_nil] at g4
  refine ⟨vss, g1, g2, by rw [hels]; unfold maxLen; have : ps.toList.length ≤ ps.toList.length * P.cellsOf et := Nat.le_mul_of_pos_right _ hz; omega, ?_⟩
  rw [hels]
  have n1 : ¬ (ps.toList.length * P.cellsOf et > 2 ^ 24) := by omega
  have n2 : ¬ (ps.toList.length * P.cellsOf et = 0) := by
    have : 0 < ps.toList.length * P.cellsOf et := Nat.mul_pos h0 hz
    omega
  have hmap : (ps.map fun x => (x.1, e x.2)).toList = ps.toList.map fun x => (x.1, e x.2) := by simp
  simp only [Array.toArray_toList] at g4
  simp only [execOp, ho, Instr.buildSlice, Sem.run_bind, Sem.run_pure, Result.andThen_ok, run_underlying hu, hsize, if_neg n1, if_neg n2, hzr, hcells, hmap, g4, newRow, run_newObj_alloc]

theorem made_eq (z : Array Value) (k : Nat) : madeCells z (k * z.size) = (List.replicate k z.toList).flatten.toArray := by
  have hall : ∀ vs ∈ List.replicate k z.toList, vs.length = z.size := fun vs hv => by rw [List.eq_of_mem_replicate hv]; simp
  apply Array.ext
  · rw [size_madeCells]; simp
  · intro j j1 j2
    rw [size_madeCells] at j1
    have hz : 0 < z.size := Nat.pos_of_ne_zero fun h0 => by rw [h0, Nat.mul_zero] at j1; omega
    have hm : j % z.size < z.size := Nat.mod_lt _ hz
    have hd : j / z.size < k := Nat.div_lt_of_lt_mul (by rw [Nat.mul_comm]; exact j1)
    have h1 := flatten_at hall (i := j / z.size) (j := j % z.size) (vs := z.toList) (by rw [List.getElem?_replicate, if_pos hd]) hm
    rw [Nat.div_add_mod' j z.size] at h1
    have h2 : (List.replicate k z.toList).flatten.toArray[j]? = z[j % z.size]? := by simpa using h1
    rw [Array.getElem?_eq_getElem j2, Array.getElem?_eq_getElem hm] at h2
    rw [Option.some.inj h2]
    simp [madeCells, hm]

theorem fresh_makeSlice (hs : Sim P base S w hp φ) (ht : ∀ x, Rep S w hp φ (ev tm x) (e x)) {t et : TypeId} {n c : Operand} (ho : o.op = .makeSlice t n c) (hu : P.underlying t = some (.slice et)) {l : Int} (hn : ev tm n = .int .i64 l) (hc : ev tm c = .int .i64 l) (h0 : 0 ≤ l) (hb : P.bytesOf et * l ≤ 140737488355328)
    {z : AV} (hzero : zero P et = some z) (hzl : z.cells.length = P.cellsOf et) (hz1 : z.cells.all AV.one = true) {tys : List TypeId} {zc : List AV} (hzc : closeL [] (norms P tys z.cells) = some zc) : FreshS P S w e o et (P.cellsOf et) (List.replicate l.toNat zc) := by
  obtain ⟨i, v, hi, hzv, hlit⟩ := zero_of hzero
  have hrep : Rep S w [] [] z v := by rw [hlit]; exact lit_rep v
  have hcr := hrep.cells_rep hz1
  have hco := hrep.cells_ones hz1
  have hvl : v.cells.toList.length = P.cellsOf et := by rw [← hcr.length, hzl]
  have h1 := ht n; rw [hn] at h1
  have h2 := ht c; rw [hc] at h2
  obtain ⟨e1, w1⟩ := h1.int_inv
  obtain ⟨e2, _⟩ := h2.int_inv
  have w1' : l ≤ 9223372036854775807 := by
    simp [Lit.wf, IntKind.min, IntKind.max, IntKind.bits, IntKind.signed] at w1; omega
  have hbytes : P.bytesOf et = i.bytes := by simp [Program.bytesOf, hi]
  have hsz : P.cellsOf et = i.size := by simp [Program.cellsOf, hi]
  have hrun := run_make (P := P) w t et i v hu hi hzv .i64 .i64 l l h0 (Int.le_refl _) (by rw [hbytes] at hb; omega) w1'
  have hvs : i.size = v.cells.size := by rw [← hsz, ← hvl]; simp
  rw [hvs, made_eq] at hrun
  exact ⟨_, Repss.replicate (closeL_rep (norms_rep (Reps.mono (SExt.refl _ _) hcr HpExt.nil)) hzc) hco l.toNat, fun vs hv => by rw [List.eq_of_mem_replicate hv]; exact hvl, by rw [List.length_replicate]; unfold maxLen; omega, by
    rw [List.length_replicate]
    simp only [execOp, ho, e1, e2, Sem.run_bind, Sem.run_pure, Result.andThen_ok, hrun]⟩

theorem FreshS.stay {et : TypeId} {size : Nat} {els : List (List AV)} (h : FreshS P S w e o et size els) (hs : Sim P base S w hp φ) : Acts P base S w hp φ e o (.sl size els) hp := by
  obtain ⟨vss, h1, h2, h3, h4⟩ := h
  exact acts_new hs et h1 h2 [] h3 h4
theorem FreshS.row {et : TypeId} {size : Nat} {els : List (List AV)} (h : FreshS P S w e o et size els) (hs : Sim P base S w hp φ) (hsz : P.cellsOf et = size) (hz : 0 < size) : Acts P base S w hp φ e o (.row hp.length els.length) (hp ++ [.row et size els]) := by
  obtain ⟨vss, h1, h2, h3, h4⟩ := h
  obtain ⟨S', g1, g2, g3⟩ := hs.alloc_row (e := et) h1 h2 hsz hz h3
  exact ⟨_, S', _, _, .inl h4, g3, g1, g2⟩
theorem FreshS.arr {et : TypeId} {size : Nat} {els : List (List AV)} (h : FreshS P S w e o et size els) (hs : Sim P base S w hp φ) : Acts P base S w hp φ e o (.own hp.length 0 els.length) (hp ++ [.arr size els]) := by
  obtain ⟨vss, h1, h2, h3, h4⟩ := h
  obtain ⟨g1, g2⟩ := hs.alloc_arr (E := et) h1 h2 []
  rw [List.append_nil] at g1 g2
  exact ⟨_, S, _, _, .inl h4, .own _ _ hp.length 0 els.length w.heap.size size els els.length (by rw [← hs.len]; simp) (by rw [nth?_eq]; simp) (by omega) (some ⟨w.heap.size, 0, none⟩) (fun _ => by simp) ⟨Nat.le_refl _, h3, fun h => by cases h⟩, g1, g2⟩

/-! ### Stores -/
theorem below_setRow {g : Nat} {cs : Array Value} (hg : base ≤ g) : Below base w (w.setRow g cs) :=
  ⟨rfl, rfl, rfl, by simp, fun k hk => setRow_other w g k cs (by omega)⟩

/-- A block of an object is written. -/
theorem Sim.write (hs : Sim P base S w hp φ) {id b : Nat} {o' : Ob} (hat : blockAt φ id = some b) (hns : ∀ o, ¬ S b o) (cs : Array Value) (hE : HpExt hp φ (hp.set id o') φ) (hid : id < hp.length) (hob : ObOk P base S (w.setRow b cs) (hp.set id o') φ id o') :
    Sim P base S (w.setRow b cs) (hp.set id o') φ ∧ Trans base S w hp φ S (w.setRow b cs) (hp.set id o') φ := by
  have hS : SExt S w S (w.setRow b cs) := fun b' o h => ⟨h, cell_setRow_other w b cs ⟨b', o, none⟩ (fun e => by
    have e : b' = b := e
    subst e; exact hns o h)⟩
  refine ⟨⟨by simpa using hs.len, by simpa using hs.low, fun b' o h => ?_, fun j oj hj => ?_, hs.apart⟩, ⟨hS, hE, below_setRow (hs.block_lt hat).1, fun _ _ h => .inl h⟩⟩
  · obtain ⟨v, hv⟩ := hs.cell b' o h
    exact ⟨v, (hS b' o h).2.trans hv⟩
  · by_cases hji : j = id
    · subst hji
      rw [List.getElem?_set_self hid] at hj
      cases hj
      exact hob
    · rw [List.getElem?_set_ne (Ne.symm hji)] at hj
      exact (hs.obj j oj hj).keep hS hE rfl fun b' hb' => ⟨setRow_other w b b' cs fun e => hji (hs.apart j id b (e ▸ hb') hat), fun _ => .rfl⟩

theorem run_storeAt {t : TypeId} {g off : Nat} {E : TypeId} {cur : Array Value} {v : Value} (hg : w.heap[g]? = some (.cells cur E (0, 0))) (hsz : v.cells.size = P.cellsOf t) (hpos : 0 < P.cellsOf t) (hl : off + P.cellsOf t ≤ cur.size) (h1 : Ones v.cells.toList) :
    (Instr.storeAt t (.pointer (some ⟨g, off, none⟩)) v).run P w = .ok () (w.setRow g (cur.toList.take off ++ v.cells.toList ++ cur.toList.drop (off + P.cellsOf t)).toArray) := by
  have hsize := run_sizeOf (P := P) (w := w) hpos
  have hst := run_storeCells_at P g off E v.cells.toList 0 cur w hg (by simp only [Nat.add_zero, Array.length_toList]; omega) h1
  simp only [Nat.add_zero, Array.length_toList, hsz] at hst
  have hne : ¬ (v.cells.size ≠ P.cellsOf t) := by omega
  simp only [Instr.storeAt, Instr.sureAddr, storeVar, Sem.run_bind, Sem.run_pure, Result.andThen_ok, hsize, if_neg hne, hst]

theorem hpExt_var (hp : Hp) (φ : List Pl) {id : Nat} {E : TypeId} {cs cs' : List AV} (hob : hp[id]? = some (.var E cs)) : HpExt hp φ (hp.set id (.var E cs')) φ := by
  have hid := nth?_lt hob
  refine ⟨fun _ _ h => h, fun j size els h => ⟨els, ?_, rfl⟩, fun j e size els h => ⟨[], ?_, fun _ v hv => hv⟩⟩
  · rw [nth?_eq] at h ⊢
    rw [List.getElem?_set_ne (fun e => by subst e; rw [hob] at h; cases h)]; exact h
  · rw [nth?_eq] at h ⊢
    rw [List.getElem?_set_ne (fun e => by subst e; rw [hob] at h; cases h), List.append_nil]; exact h

theorem acts_store_var (hs : Sim P base S w hp φ) (ht : ∀ x, Rep S w hp φ (ev tm x) (e x)) {t : TypeId} {a x : Operand} (ho : o.op = .store t a x) (hl : (ev tm x).cells.length = P.cellsOf t) (hpos : 0 < P.cellsOf t) (h1 : (ev tm x).cells.all AV.one = true)
    {id off : Nat} (ha : ev tm a = .ptr id off) {E : TypeId} {cs : List AV} (hob : nth? hp id = some (.var E cs)) (hoff : off + P.cellsOf t ≤ cs.length) : Acts P base S w hp φ e o .junk (setNth hp id (.var E (updL cs off (ev tm x).cells))) := by
  rw [nth?_eq] at hob
  rw [setNth_eq]
  have hx := ht x; have haa := ht a
  rw [ha] at haa
  obtain ⟨b, hb, he⟩ := haa.ptr_inv
  obtain ⟨b', vs, E', g1, g2, g3, g4, g5, g6⟩ := hs.obj id _ hob
  rw [hb] at g1; cases g1
  have hcr := hx.cells_rep h1
  have hco := hx.cells_ones h1
  have hlen : (e x).cells.toList.length = P.cellsOf t := by rw [← hcr.length]; exact hl
  have hlv := g4.length
  have hrun := run_storeAt (P := P) (t := t) (off := off) (v := e x) g3 (by simpa using hlen) hpos (by simp only [List.size_toArray]; omega) hco
  have hE := hpExt_var hp φ (cs' := updL cs off (ev tm x).cells) hob
  have hat : blockAt φ id = some b := by simp [blockAt, hb]
  have hS : ∀ w' : World, (∀ b' o, S b' o → w'.cell? ⟨b', o, none⟩ = w.cell? ⟨b', o, none⟩) → SExt S w S w' := fun w' h b' o hb' => ⟨hb', h b' o hb'⟩
  have hS' : SExt S w S (w.setRow b (vs.take off ++ (e x).cells.toList ++ vs.drop (off + P.cellsOf t)).toArray) := hS _ fun b' o hb' => cell_setRow_other w b _ ⟨b', o, none⟩ fun e1 => by
    have e1 : b' = b := e1
    subst e1; exact g6 o hb'
  obtain ⟨s1, s2⟩ := hs.write hat g6 (vs.take off ++ (e x).cells.toList ++ vs.drop (off + P.cellsOf t)).toArray hE (nth?_lt hob) ⟨b, vs.take off ++ (e x).cells.toList ++ vs.drop (off + P.cellsOf t), E', hb, g2, setRow_heap w b _ _ E' (0, 0) g3, by
      have h0 : Reps S w hp φ (updL cs off (ev tm x).cells) (vs.take off ++ (e x).cells.toList ++ vs.drop (off + P.cellsOf t)) := by
        rw [updL, hl, List.append_assoc]
        exact Reps.append (g4.take off) (Reps.append hcr (g4.drop (off + P.cellsOf t)))
      exact Reps.mono hS' h0 hE, by
      intro v hv
      rcases List.mem_append.1 hv with hv | hv
      · rcases List.mem_append.1 hv with hv | hv
        · exact g5 v (List.mem_of_mem_take hv)
        · exact hco v hv
      · exact g5 v (List.mem_of_mem_drop hv), g6⟩
  refine ⟨undef, S, φ, _, .inr ⟨?_, rfl⟩, .junk _ _ _, s1, s2⟩
  simp only [execOp, ho, he, Sem.run_bind, Sem.run_pure, Result.andThen_ok, hrun]

theorem flatten_set {α : Type} {vss : List (List α)} {size : Nat} (h : ∀ vs ∈ vss, vs.length = size) {i off : Nat} {vs : List α} (hi : vss[i]? = some vs) (xs : List α) (hx : off + xs.length ≤ size) :
    vss.flatten.take (i * size + off) ++ xs ++ vss.flatten.drop (i * size + off + xs.length) = (vss.set i (vs.take off ++ (xs ++ vs.drop (off + xs.length)))).flatten := by
  induction vss generalizing i with
  | nil => simp at hi
  | cons a t ih =>
    have ha := h a (by simp)
    cases i with
    | zero =>
      simp at hi; subst hi
      simp only [Nat.zero_mul, Nat.zero_add, List.flatten_cons, List.set_cons_zero]
      rw [List.take_append_of_le_length (by omega), List.drop_append_of_le_length (by omega)]
      simp [List.append_assoc]
    | succ i =>
      have := ih (fun vs hv => h vs (by simp [hv])) (i := i) (by simpa using hi)
      rw [List.flatten_cons, List.set_cons_succ, List.flatten_cons, ← this]
      rw [show (i + 1) * size + off = a.length + (i * size + off) by rw [ha, Nat.succ_mul]; omega, List.take_append, List.take_of_length_le (by omega), show a.length + (i * size + off) - a.length = i * size + off by omega]
      rw [show a.length + (i * size + off) + xs.length = a.length + (i * size + off + xs.length) by omega, List.drop_append, List.drop_of_length_le (by omega), show a.length + (i * size + off + xs.length) - a.length = i * size + off + xs.length by omega]
      simp [List.append_assoc]
theorem flatten_set_len {α : Type} {vss : List (List α)} {size : Nat} (h : ∀ vs ∈ vss, vs.length = size) (i : Nat) {vs : List α} (hv : vs.length = size) : ∀ us ∈ vss.set i vs, us.length = size := by
  intro us hu
  rcases List.mem_or_eq_of_mem_set hu with hu | rfl
  · exact h us hu
  · exact hv

theorem hpExt_arr (hp : Hp) (φ : List Pl) {id size : Nat} {els els' : List (List AV)} (hob : hp[id]? = some (.arr size els)) (hl : els'.length = els.length) : HpExt hp φ (hp.set id (.arr size els')) φ := by
  have hid := nth?_lt hob
  refine ⟨fun _ _ h => h, fun j sz es h => ?_, fun j e sz es h => ⟨[], ?_, fun _ v hv => hv⟩⟩
  · rw [nth?_eq] at h
    simp only [nth?_eq]
    by_cases hj : j = id
    · subst hj
      rw [hob] at h; cases h
      exact ⟨els', List.getElem?_set_self hid, hl⟩
    · exact ⟨es, by rw [List.getElem?_set_ne (Ne.symm hj)]; exact h, rfl⟩
  · rw [nth?_eq] at h ⊢
    rw [List.getElem?_set_ne (fun e => by subst e; rw [hob] at h; cases h), List.append_nil]; exact h

theorem acts_store_arr (hs : Sim P base S w hp φ) (ht : ∀ x, Rep S w hp φ (ev tm x) (e x)) {t : TypeId} {a x : Operand} (ho : o.op = .store t a x) (hl : (ev tm x).cells.length = P.cellsOf t) (hpos : 0 < P.cellsOf t) (h1 : (ev tm x).cells.all AV.one = true)
    {id i off : Nat} (ha : ev tm a = .pte id i off) {size : Nat} {els : List (List AV)} (hob : nth? hp id = some (.arr size els)) {el : List AV} (hel : nth? els i = some el) {c : List AV} (hc : closeL hp (ev tm x).cells = some c) (hoff : off + P.cellsOf t ≤ el.length) :
    Acts P base S w hp φ e o .junk (setNth hp id (.arr size (setNth els i (updL el off c)))) := by
  rw [nth?_eq] at hob hel
  rw [setNth_eq, setNth_eq]
  have hx := ht x; have haa := ht a
  rw [ha] at haa
  obtain ⟨b, size', els', hb, hob', he⟩ := haa.pte_inv
  rw [nth?_eq, hob] at hob'; cases hob'
  obtain ⟨b', vss, ex, E', g1, g2, g3, g4, g5, g6⟩ := hs.obj id _ hob
  rw [hb] at g1; cases g1
  obtain ⟨vs, hv1, hv2, hv3⟩ := g4.get hel
  have hvs := g5 vs (List.mem_of_getElem? hv1)
  have hcr := hx.cells_rep h1
  have hco := hx.cells_ones h1
  have hcl := closeL_rep hcr hc
  have hlen : (e x).cells.toList.length = P.cellsOf t := by rw [← hcr.length]; exact hl
  have hlc : c.length = P.cellsOf t := by rw [hcl.length]; exact hlen
  have hlv := hv2.length
  have hle : i * size + size ≤ vss.flatten.length := by
    rw [flatten_len g5]
    have := nth?_lt hv1
    calc i * size + size = (i + 1) * size := by rw [Nat.succ_mul]
      _ ≤ vss.length * size := Nat.mul_le_mul_right _ this
  have hrun := run_storeAt (P := P) (t := t) (off := i * size + off) (v := e x) g3 (by simpa using hlen) hpos (by simp only [List.size_toArray, List.length_append]; omega) hco
  have hfl := flatten_set g5 hv1 (e x).cells.toList (off := off) (by omega)
  rw [hlen] at hfl
  have hfl2 : (vss.flatten ++ ex).take (i * size + off) ++ (e x).cells.toList ++ (vss.flatten ++ ex).drop (i * size + off + P.cellsOf t) = (vss.set i (vs.take off ++ ((e x).cells.toList ++ vs.drop (off + P.cellsOf t)))).flatten ++ ex := by
    rw [← hfl, List.take_append_of_le_length (by omega), List.drop_append_of_le_length (by omega), List.append_assoc, List.append_assoc, List.append_assoc]
  simp only [hfl2] at hrun
  have hE := hpExt_arr hp φ (els' := els.set i (updL el off c)) hob (by simp)
  have hat : blockAt φ id = some b := by simp [blockAt, hb]
  generalize hnew : (vss.set i (vs.take off ++ ((e x).cells.toList ++ vs.drop (off + P.cellsOf t)))) = vss' at *
  have hS' : SExt S w S (w.setRow b (vss'.flatten ++ ex).toArray) := fun b' o hb' => ⟨hb', cell_setRow_other w b _ ⟨b', o, none⟩ fun e1 => by
    have e1 : b' = b := e1
    subst e1; exact g6 o hb'⟩
  obtain ⟨s1, s2⟩ := hs.write hat g6 (vss'.flatten ++ ex).toArray hE (nth?_lt hob) ⟨b, vss', ex, E', hb, g2, setRow_heap w b _ _ E' (0, 0) g3, by
      have h0 : Repss S w (els.set i (updL el off c)) vss' := by
        rw [← hnew]
        refine g4.set i ?_ ?_
        · rw [updL, hlc]
          exact Reps.append (hv2.take off) (Reps.append hcl (hv2.drop (off + P.cellsOf t)))
        · intro v hv
          rcases List.mem_append.1 hv with hv | hv
          · exact hv3 v (List.mem_of_mem_take hv)
          · rcases List.mem_append.1 hv with hv | hv
            · exact hco v hv
            · exact hv3 v (List.mem_of_mem_drop hv)
      exact Repss.mono hS' h0, by
      rw [← hnew]
      refine flatten_set_len g5 i ?_
      simp only [List.length_append, List.length_take, List.length_drop, hlen]; omega, g6⟩
  refine ⟨undef, S, φ, _, .inr ⟨?_, rfl⟩, .junk _ _ _, s1, s2⟩
  simp only [execOp, ho, he, Sem.run_bind, Sem.run_pure, Result.andThen_ok, hrun]
end
end Go.Proofs.Ytaocgmkcjemecaa
end

/- The interpreter is sound: append. Parts of the proofs of the laws. Conditions: none. -/
section
namespace Go.Proofs.Ytaocgmkcjemecaa
open Go.RowKit
set_option linter.unusedVariables false
set_option linter.unusedSimpArgs false

theorem flatten_inv {α : Type} {vss : List (List α)} {size : Nat} (h : ∀ vs ∈ vss, vs.length = size) {j : Nat} {u : α} (hj : vss.flatten[j]? = some u) : ∃ vs, vss[j / size]? = some vs ∧ vs[j % size]? = some u := by
  have hlt := nth?_lt hj
  rw [flatten_len h] at hlt
  have hz : 0 < size := Nat.pos_of_ne_zero fun h0 => by rw [h0, Nat.mul_zero] at hlt; omega
  have hd : j / size < vss.length := Nat.div_lt_of_lt_mul (by rw [Nat.mul_comm]; exact hlt)
  refine ⟨vss[j / size], List.getElem?_eq_getElem hd, ?_⟩
  have := flatten_at h (i := j / size) (j := j % size) (List.getElem?_eq_getElem hd) (Nat.mod_lt _ hz)
  rw [Nat.div_add_mod' j size, hj] at this
  exact this.symm

section
variable {S : Nat → Nat → Prop} {w : World} {hp : Hp} {φ : List Pl} {P : Program} {base : Nat} {e : Operand → Value} {o : Oper} {tm : Tm}

theorem laid_flat {a : Option Addr} {size : Nat} {vss : List (List Value)} (h : Laid S w a size vss) {j : Nat} {u : Value} (hj : vss.flatten[j]? = some u) : ∃ b ob, a = some ⟨b, ob, none⟩ ∧ S b (ob + j) ∧ w.cell? ⟨b, ob + j, none⟩ = some u := by
  obtain ⟨vs, h1, h2⟩ := flatten_inv h.1 hj
  obtain ⟨b, ob, e1, e2, e3⟩ := h.2 _ _ _ _ h1 h2
  have : ob + j / size * size + j % size = ob + j := by rw [Nat.add_assoc, Nat.div_add_mod']
  rw [this] at e2 e3
  exact ⟨b, ob, e1, e2, e3⟩

/-- What is appended, or copied. -/
theorem src_of (hs : Sim P base S w hp φ) {av : AV} {v : Value} {size : Nat} {news : List (List AV)} (h : Rep S w hp φ av v) (hn : elsOf hp size av = some news) :
    ∃ (ad : Option Addr) (c : Nat) (vss : List (List Value)), v = .slice ad news.length c ∧ Repss S w news vss ∧ (∀ vs ∈ vss, vs.length = size) ∧ (∀ j u, vss.flatten[j]? = some u → ∃ a, ad = some a ∧ w.cell? (a.add j) = some u) ∧ (ad = none → news = [] ∧ c = 0) := by
  have fin : ∀ (a : Option Addr) (cap : Nat) (els : List (List AV)) (vss : List (List Value)), Repss S w els vss → Laid S w a size vss → Cap a els.length cap → v = .slice a els.length cap →
      ∃ (ad : Option Addr) (c : Nat) (vss : List (List Value)), v = .slice ad els.length c ∧ Repss S w els vss ∧ (∀ vs ∈ vss, vs.length = size) ∧ (∀ j u, vss.flatten[j]? = some u → ∃ a, ad = some a ∧ w.cell? (a.add j) = some u) ∧ (ad = none → els = [] ∧ c = 0) := by
    intro a cap els vss hr hl hc he
    refine ⟨a, cap, vss, he, hr, hl.1, fun j u hj => ?_, fun ha => ?_⟩
    · obtain ⟨b, ob, e1, e2, e3⟩ := laid_flat hl hj
      exact ⟨_, e1, by rw [add_none]; exact e3⟩
    · have := hc.2.2 ha
      have := hc.1
      exact ⟨List.eq_nil_of_length_eq_zero (by omega), by omega⟩
  cases av <;> simp only [elsOf] at hn <;> first | (cases hn; done) | skip
  case nils => cases hn; exact ⟨none, 0, [], h.nils_inv, .nil, by simp, fun j u hj => by simp at hj, fun _ => ⟨rfl, rfl⟩⟩
  case sl s els =>
    split at hn
    · rename_i hq
      have hq := of_decide_eq_true hq
      subst hq; cases hn
      obtain ⟨vss, a, cap, hr, hl, hc, he⟩ := h.sl_inv
      exact fin a cap _ vss hr hl hc he
    · cases hn
  case row id n =>
    obtain ⟨et, s, els, h1, h2, h3, h4⟩ := h.row_inv
    rw [h1] at hn
    simp only at hn
    split at hn
    · rename_i hq
      have hq := of_decide_eq_true hq
      subst hq; cases hn
      obtain ⟨vss, a, cap, hr, hl, hc, he⟩ := h3.sl_inv
      exact fin a cap _ vss hr hl hc he
    · cases hn
  case own id off n =>
    obtain ⟨b, s, els, cap, ad, hb, hob, hle, had, hc, he⟩ := h.own_inv
    rw [hob] at hn
    simp only at hn
    split at hn
    · rename_i hq
      have hq := of_decide_eq_true hq
      subst hq; cases hn
      rw [nth?_eq] at hob
      obtain ⟨b', vss, ex, E', g1, g2, g3, g4, g5, g6⟩ := hs.obj id _ hob
      rw [hb] at g1; cases g1
      have hlen : ((els.drop off).take n).length = n := by rw [List.length_take, List.length_drop]; omega
      refine ⟨ad, cap, (vss.drop off).take n, by rw [hlen]; exact he, (g4.drop off).take n, fun vs hv => g5 vs (List.mem_of_mem_drop (List.mem_of_mem_take hv)), fun j u hj => ?_, fun ha => ?_⟩
      · obtain ⟨vs, e1, e2⟩ := flatten_inv (size := s) (fun vs hv => g5 vs (List.mem_of_mem_drop (List.mem_of_mem_take hv))) hj
        rw [List.getElem?_take] at e1
        split at e1
        · rename_i hlt
          rw [List.getElem?_drop] at e1
          have hvl := g5 vs (List.mem_of_getElem? e1)
          have hz : 0 < s := by rw [← hvl]; exact Nat.lt_of_le_of_lt (Nat.zero_le _) (nth?_lt e2)
          refine ⟨_, had (Nat.lt_of_le_of_lt (Nat.zero_le _) hlt), ?_⟩
          rw [add_none]
          have := flatten_at g5 e1 (j := j % s) (Nat.mod_lt _ hz)
          rw [e2, Nat.add_mul, Nat.add_assoc, Nat.div_add_mod'] at this
          simp [World.cell?, g3]
          have hx := List.getElem?_append_left (l₂ := ex) (List.getElem?_eq_some_iff.1 this).1
          rw [this] at hx
          simpa using hx
        · cases e1
      · have := hc.2.2 ha
        have := hc.1
        exact ⟨List.eq_nil_of_length_eq_zero (by omega), by omega⟩
    · cases hn

/-- append to a row that the call owns. -/
theorem append_own {t et : TypeId} (hu : P.underlying t = some (.slice et)) {size : Nat} (hsz : P.cellsOf et = size) (hz : 0 < size) {z : AV} (hzero : zero P et = some z) (hzl : z.cells.length = size) (hz1 : z.cells.all AV.one = true)
    {v : Value} {n : Nat} {xs : List Value} (hown : w.ownsRow base et size v n xs) (hbase : base ≤ w.heap.size) {ad : Option Addr} {m c : Nat} {news : List Value} (hl : news.length = m * size) (hnews : ∀ j u, news[j]? = some u → ∃ a, ad = some a ∧ w.cell? (a.add j) = some u) (hnone : ad = none → m = 0 ∧ c = 0) (h1 : Ones news)
    (hb : (n + m) * (P.bytesOf et + 1) ≤ 140737488355328) (ty : TypeId) :
    ∃ v' w', (Builtin.append_ #[t, t] ty #[v, .slice ad m c]).run P w = .ok v' w' ∧ w'.ownsRow base et size v' (n + m) (xs ++ news) ∧ w.grownBy w' v.ownBlock ∧ (∀ g, v.ownBlock = some g → ∀ ob, ob < n * size → w'.cell? ⟨g, ob, none⟩ = w.cell? ⟨g, ob, none⟩) ∧
      (v'.ownBlock = v.ownBlock ∨ ∃ g, v'.ownBlock = some g ∧ w.heap.size ≤ g) ∧ (m = 0 → v' = v) := by
  obtain ⟨i, zv, hi, hzv, hlit⟩ := zero_of hzero
  have hisz : i.size = size := by rw [← hsz]; simp [Program.cellsOf, hi]
  have hby : P.bytesOf et = i.bytes := by simp [Program.bytesOf, hi]
  rw [hby, Nat.mul_add, Nat.mul_one] at hb
  have hrep : Rep (fun _ _ => False) w [] [] z zv := by rw [hlit]; exact lit_rep zv
  have hzvl : zv.cells.size = size := by
    have := (hrep.cells_rep hz1).length
    rw [hzl] at this; simpa using this.symm
  cases ad with
  | none =>
    obtain ⟨rfl, rfl⟩ := hnone rfl
    have hnil : news = [] := List.eq_nil_of_length_eq_zero (by rw [hl]; simp)
    subst hnil
    have hrun := run_append_owned_none (P := P) (w := w) base t ty et i size hu hi v n xs hown
    exact ⟨v, w, hrun, by simpa using hown, ⟨rfl, rfl, rfl, Nat.le_refl _, fun _ _ _ => rfl⟩, fun _ _ _ _ => rfl, .inl rfl, fun _ => rfl⟩
  | some ad =>
    have hnews' : ∀ j u, news[j]? = some u → w.cell? (ad.add j) = some u := fun j u hj => by
      obtain ⟨a, e1, e2⟩ := hnews j u hj
      cases e1; exact e2
    obtain ⟨v', w', hr, h2, h3, h4⟩ := run_append_own (P := P) w base t ty et i zv size i.bytes hu hi hzv hisz rfl hzvl hz v n xs hown ad m c news hl hnews' h1 (by unfold maxLen; omega) (by omega) hbase
    refine ⟨v', w', hr, h2, h3, ?_⟩
    rcases hown.2 with ⟨rfl, rfl⟩ | ⟨g, cap, cur, rfl, hbg, hgg, hn, hcap, hcur, htake⟩
    · refine ⟨fun g hg => by simp [Value.ownBlock] at hg, ?_, fun hm => ?_⟩
      · by_cases hm : m = 0
        · have := h4.2 ⟨rfl, hm⟩
          subst this; exact .inl rfl
        · have := run_append_nil (P := P) w t ty et i zv hu hi hzv ad m c news (by rw [hisz]; exact hl) hnews' (by omega) (by rw [Nat.zero_add] at hb; omega) (by rw [Nat.zero_add] at hb; omega)
          rw [hr] at this
          injection this with e1 e2
          subst e1
          exact .inr ⟨_, rfl, Nat.le_refl _⟩
      · exact h4.2 ⟨rfl, hm⟩
    · by_cases hroom : n + m ≤ cap
      · have hfit : n * i.size + news.length ≤ cur.size := by
          rw [hisz, hl, hcur, ← Nat.add_mul]; exact Nat.mul_le_mul_right _ hroom
        have := run_append_room (P := P) w t ty et i hu hi g n cap cur hgg ad m c news (by rw [hisz]; exact hl) hnews' h1 hroom hfit
        rw [hr] at this
        injection this with e1 e2
        subst e1; subst e2
        refine ⟨fun g' hg' ob hob => ?_, .inl rfl, fun hm => by subst hm; rfl⟩
        have hg' : g = g' := by simpa [Value.ownBlock] using hg'
        subst hg'
        rw [cell_setRow_same w g ob cur _ et (0, 0) hgg]
        have h0 : w.cell? ⟨g, ob, none⟩ = cur[ob]? := by simp [World.cell?, hgg]
        rw [h0]
        simp only [List.getElem?_toArray, List.append_assoc]
        rw [hisz] at hfit ⊢
        rw [List.getElem?_append_left (by rw [List.length_take, Array.length_toList]; omega), List.getElem?_take, if_pos hob]
        simp
      · have hlo : xs.length = n * i.size := by rw [hisz]; exact hown.1
        have := run_append_grow (P := P) w t ty et i zv hu hi hzv ⟨g, 0, none⟩ n cap xs hlo (hown.cells rfl) ad m c news (by rw [hisz]; exact hl) hnews' (by omega) (by omega) (growslice_fits (by omega) (by omega))
        rw [hr] at this
        injection this with e1 e2
        subst e1; subst e2
        refine ⟨fun g' hg' ob hob => ?_, .inr ⟨_, rfl, Nat.le_refl _⟩, fun hm => by omega⟩
        have hg' : g = g' := by simpa [Value.ownBlock] using hg'
        subst hg'
        have hlt := (Array.getElem?_eq_some_iff.1 hgg).1
        exact cell_alloc_old w.drew _ hlt

theorem hpExt_row (hp : Hp) (φ : List Pl) {id : Nat} {et size : Nat} {els news : List (List AV)} {v v' : Value} (hob : hp[id]? = some (.row et size els)) (hv : φ[id]? = some (.sv v)) (hm : news = [] → v' = v) : HpExt hp φ (hp.set id (.row et size (els ++ news))) (φ.set id (.sv v')) := by
  have hid := nth?_lt hob
  have hidφ := nth?_lt hv
  refine ⟨fun j b h => ?_, fun j sz es h => ⟨es, ?_, rfl⟩, fun j e sz es h => ?_⟩
  · rw [List.getElem?_set_ne (fun e => by subst e; rw [hv] at h; cases h)]; exact h
  · rw [nth?_eq] at h ⊢
    rw [List.getElem?_set_ne (fun e => by subst e; rw [hob] at h; cases h)]; exact h
  · rw [nth?_eq] at h
    simp only [nth?_eq]
    by_cases hj : j = id
    · subst hj
      rw [hob] at h; cases h
      refine ⟨news, List.getElem?_set_self hid, fun hn u hu => ?_⟩
      rw [hv] at hu; cases hu
      rw [List.getElem?_set_self hidφ, hm hn]
    · refine ⟨[], by rw [List.getElem?_set_ne (Ne.symm hj), List.append_nil]; exact h, fun _ u hu => ?_⟩
      rw [List.getElem?_set_ne (Ne.symm hj)]; exact hu

theorem append_core (hs : Sim P base S w hp φ) {t et : TypeId} {s x : Operand} (ho : o.op = .call { callee := .builtin .append, args := #[s, x], argTypes := #[t, t] }) (hu : P.underlying t = some (.slice et)) (hz : 0 < P.cellsOf et) {z : AV} (hzero : zero P et = some z) (hzl : z.cells.length = P.cellsOf et) (hz1 : z.cells.all AV.one = true)
    {news : List (List AV)} {xv : AV} (hxr : Rep S w hp φ xv (e x)) (hx : elsOf hp (P.cellsOf et) xv = some news) {id : Nat} (hcur : φ[id]? = some (.sv (e s))) {els : List (List AV)} (hob : hp[id]? = some (.row et (P.cellsOf et) els)) (hb : (els.length + news.length) * (P.bytesOf et + 1) ≤ 140737488355328) :
    Acts P base S w hp φ e o (.row id (els.length + news.length)) (hp.set id (.row et (P.cellsOf et) (els ++ news))) := by
  obtain ⟨ad, c, nvss, hxe, hnr, hnl, hnc, hnn⟩ := src_of hs hxr hx
  obtain ⟨v, vss, g1, g2, g3, g4, g5, g6, g7⟩ := hs.obj id _ hob
  rw [hcur] at g1; cases g1
  have hlv := g3.length
  have hln := hnr.length
  have hno : Ones nvss.flatten := by
    intro u hu
    obtain ⟨vs, hvs, hu⟩ := List.mem_flatten.1 hu
    obtain ⟨k, hk, rfl⟩ := List.getElem_of_mem hvs
    obtain ⟨el, hel⟩ : ∃ el, news[k]? = some el := ⟨_, List.getElem?_eq_getElem (by omega)⟩
    obtain ⟨vs', e1, e2, e3⟩ := hnr.get hel
    rw [List.getElem?_eq_getElem hk] at e1; cases e1
    exact e3 u hu
  obtain ⟨v', w', hrun, hown', hgrow, hold, hblk, hm0⟩ := append_own (ty := o.type) hu rfl hz hzero hzl hz1 g2 hs.low (ad := ad) (m := news.length) (c := c) (news := nvss.flatten) (by rw [flatten_len hnl, hln]) hnc (fun ha => by obtain ⟨e1, e2⟩ := hnn ha; subst e1; exact ⟨rfl, e2⟩) hno hb
  have hat : ∀ g, (e s).ownBlock = some g → blockAt φ id = some g := fun g hg => by simp [blockAt, hcur, hg]
  have hvlt := hown'.lt
  have hnewblk : ∀ g, v'.ownBlock = some g → (e s).ownBlock = some g ∨ w.heap.size ≤ g := by
    intro g hg
    rcases hblk with h | ⟨g', h1, h2⟩
    · rw [h] at hg; exact .inl hg
    · rw [hg] at h1; cases h1; exact .inr h2
  let S' : Nat → Nat → Prop := fun b ob => S b ob ∨ (v'.ownBlock = some b ∧ ob < (els.length + news.length) * P.cellsOf et)
  have hcells : ∀ b ob, v'.ownBlock = some b → ob < (els.length + news.length) * P.cellsOf et → ∃ u, w'.cell? ⟨b, ob, none⟩ = some u ∧ (vss.flatten ++ nvss.flatten)[ob]? = some u := by
    intro b ob hb' hlt
    have hl : ob < (vss.flatten ++ nvss.flatten).length := by rw [hown'.1]; exact hlt
    refine ⟨_, ?_, List.getElem?_eq_getElem hl⟩
    have := hown'.cells hb' ob _ (List.getElem?_eq_getElem hl)
    rw [add_none, Nat.zero_add] at this
    exact this
  have hS : SExt S w S' w' := by
    intro b ob hb'
    refine ⟨.inl hb', ?_⟩
    by_cases hbe : (e s).ownBlock = some b
    · exact hold b hbe ob (((g7 b hbe) ob).1 hb')
    · obtain ⟨u, hu'⟩ := hs.cell b ob hb'
      exact World.cell?_of_block (a := ⟨b, ob, none⟩) (hgrow.block b (cell_lt hu') fun h => hbe h.symm)
  have hE := hpExt_row hp φ (news := news) (v' := v') hob hcur (fun hn => hm0 (by rw [hn]; rfl))
  have hidφ : id < φ.length := nth?_lt hcur
  have hbt : ∀ j b, blockAt (φ.set id (.sv v')) j = some b → (j = id ∧ v'.ownBlock = some b) ∨ (j ≠ id ∧ blockAt φ j = some b) := by
    intro j b hj
    unfold blockAt at hj ⊢
    by_cases hji : j = id
    · subst hji
      rw [List.getElem?_set_self hidφ] at hj
      exact .inl ⟨rfl, hj⟩
    · rw [List.getElem?_set_ne (Ne.symm hji)] at hj
      exact .inr ⟨hji, hj⟩
  have hclash : ∀ j b, j ≠ id → blockAt φ j = some b → v'.ownBlock ≠ some b := by
    intro j b hji hj hv'
    rcases hnewblk b hv' with h | h
    · exact hji (hs.apart j id b hj (hat b h))
    · have := (hs.block_lt hj).2; omega
  have hlen : (els ++ news).length = els.length + news.length := List.length_append
  have hsim : Sim P base S' w' (hp.set id (.row et (P.cellsOf et) (els ++ news))) (φ.set id (.sv v')) := by
    refine ⟨by simpa using hs.len, Nat.le_trans hs.low hgrow.size, fun b ob hb' => ?_, fun j oj hj => ?_, fun i j b hi hj => ?_⟩
    · rcases hb' with hb' | ⟨hb', hlt⟩
      · obtain ⟨u, hu'⟩ := hs.cell b ob hb'
        exact ⟨u, (hS b ob hb').2.trans hu'⟩
      · obtain ⟨u, hu', _⟩ := hcells b ob hb' hlt
        exact ⟨u, hu'⟩
    · by_cases hji : j = id
      · subst hji
        rw [List.getElem?_set_self (nth?_lt hob)] at hj
        cases hj
        refine ⟨v', vss ++ nvss, List.getElem?_set_self hidφ, by rw [hlen, List.flatten_append]; exact hown', (Repss.mono hS g3).append (Repss.mono hS hnr), fun vs hv => (List.mem_append.1 hv).elim (g4 vs) (hnl vs), hz, rfl, fun g hg ob => ?_⟩
        rw [hlen]
        constructor
        · rintro (h | ⟨_, h⟩)
          · rcases hnewblk g hg with h' | h'
            · have := ((g7 g h') ob).1 h
              rw [Nat.add_mul]; omega
            · obtain ⟨u, hu'⟩ := hs.cell g ob h
              have := cell_lt hu'; omega
          · exact h
        · exact fun h => .inr ⟨hg, h⟩
      · rw [List.getElem?_set_ne (Ne.symm hji)] at hj
        refine (hs.obj j oj hj).keep hS hE (List.getElem?_set_ne (Ne.symm hji)) fun b hb' => ⟨hgrow.block b (hs.block_lt hb').2 fun h => hji (hs.apart j id b hb' (hat b h.symm)), fun ob => ⟨fun h => h.elim (fun h => h) fun h => absurd h.1 (hclash j b hji hb'), .inl⟩⟩
    · rcases hbt i b hi with ⟨i1, i2⟩ | ⟨i1, i2⟩ <;> rcases hbt j b hj with ⟨j1, j2⟩ | ⟨j1, j2⟩
      · rw [i1, j1]
      · exact absurd i2 (hclash j b j1 j2)
      · exact absurd j2 (hclash i b i1 i2)
      · exact hs.apart i j b i2 j2
  have htr : Trans base S w hp φ S' w' (hp.set id (.row et (P.cellsOf et) (els ++ news))) (φ.set id (.sv v')) := by
    refine ⟨hS, hE, (Below.refl _ _).grown hgrow hs.low fun k hk => (g2.lt k hk).1, fun b ob h => ?_⟩
    rcases h with h | ⟨h, _⟩
    · exact .inl h
    · exact .inr (hvlt b h).1
  refine ⟨v', S', φ.set id (.sv v'), w', .inl ?_, ?_, hsim, htr⟩
  · simp only [execOp, ho, resolve, invoke, builtin, Sem.run_bind, Sem.run_pure, Result.andThen_ok, List.map_toArray, List.map_cons, List.map_nil, hxe, hrun]
  · refine .row _ _ id _ v' et (P.cellsOf et) (els ++ news) (by rw [nth?_eq]; exact List.getElem?_set_self (nth?_lt hob)) (by rw [hlen]; exact Nat.le_refl _) ?_ (fun _ => List.getElem?_set_self hidφ)
    rw [List.take_of_length_le (by rw [hlen]; exact Nat.le_refl _)]
    have hrr : Repss S' w' (els ++ news) (vss ++ nvss) := (Repss.mono hS g3).append (Repss.mono hS hnr)
    have hll : ∀ vs ∈ vss ++ nvss, vs.length = P.cellsOf et := fun vs hv => (List.mem_append.1 hv).elim (g4 vs) (hnl vs)
    rcases hown'.2 with ⟨hv', h0⟩ | ⟨g, cap, cur, hv', _, _, hc1, hc2, _⟩
    · have := Rep.sl (S := S') (w := w') [] [] (P.cellsOf et) (els ++ news) (vss ++ nvss) none 0 hrr ⟨hll, fun j vs t u hj hu => by
        have := nth?_lt hj
        rw [← hrr.length, hlen] at this; omega⟩ ⟨by omega, by unfold maxLen; omega, fun _ => rfl⟩
      rw [hlen, h0] at this
      rw [hv']; exact this
    · have := Rep.sl (S := S') (w := w') [] [] (P.cellsOf et) (els ++ news) (vss ++ nvss) (some ⟨g, 0, none⟩) cap hrr ⟨hll, fun j vs t u hj hu => by
        have htl : t < P.cellsOf et := by rw [← hll vs (List.mem_of_getElem? hj)]; exact nth?_lt hu
        have hf := flatten_at hll hj htl
        rw [hu, List.flatten_append] at hf
        have hlt : j * P.cellsOf et + t < (els.length + news.length) * P.cellsOf et := by
          have := nth?_lt hf
          rw [hown'.1] at this; exact this
        have hob' : v'.ownBlock = some g := by rw [hv']; rfl
        obtain ⟨u', e1, e2⟩ := hcells g _ hob' hlt
        rw [hf] at e2; cases e2
        exact ⟨g, 0, rfl, .inr ⟨hob', by rw [Nat.zero_add]; exact hlt⟩, by rw [Nat.zero_add]; exact e1⟩⟩ ⟨by rw [hlen]; exact hc1, hc2, fun h => by cases h⟩
      rw [hlen] at this
      rw [hv']; exact this

theorem elsOf_append {hp2 : Hp} {size : Nat} {av : AV} {news : List (List AV)} (h : elsOf hp size av = some news) : elsOf (hp ++ hp2) size av = some news := by
  have hn : ∀ id o, nth? hp id = some o → nth? (hp ++ hp2) id = some o := fun id o h => by
    rw [nth?_eq] at h ⊢; rw [List.getElem?_append_left (nth?_lt h)]; exact h
  cases av <;> simp only [elsOf] at h ⊢ <;> first | exact h | skip
  case row id n =>
    cases ho : nth? hp id with
    | none => rw [ho] at h; cases h
    | some o => rw [ho] at h; rw [hn id o ho]; exact h
  case own id off n =>
    cases ho : nth? hp id with
    | none => rw [ho] at h; cases h
    | some o => rw [ho] at h; rw [hn id o ho]; exact h

theorem acts_append (hs : Sim P base S w hp φ) (ht : ∀ x, Rep S w hp φ (ev tm x) (e x)) {t et : TypeId} {s x : Operand} (ho : o.op = .call { callee := .builtin .append, args := #[s, x], argTypes := #[t, t] }) (hu : P.underlying t = some (.slice et)) (hz : 0 < P.cellsOf et) {z : AV} (hzero : zero P et = some z) (hzl : z.cells.length = P.cellsOf et) (hz1 : z.cells.all AV.one = true)
    {news : List (List AV)} (hx : elsOf hp (P.cellsOf et) (ev tm x) = some news) {id n : Nat} (hsv : ev tm s = .row id n) {els : List (List AV)} (hob : nth? hp id = some (.row et (P.cellsOf et) els)) (hn : n = els.length) (hb : (els.length + news.length) * (P.bytesOf et + 1) ≤ 140737488355328) :
    Acts P base S w hp φ e o (.row id (els.length + news.length)) (setNth hp id (.row et (P.cellsOf et) (els ++ news))) := by
  have hse := ht s
  rw [hsv] at hse
  obtain ⟨et', size', els', r1, r2, r3, r4⟩ := hse.row_inv
  rw [hob] at r1; cases r1
  rw [nth?_eq] at hob
  rw [setNth_eq]
  exact append_core hs ho hu hz hzero hzl hz1 (ht x) hx (r4 hn) hob hb

theorem acts_append_nil (hs : Sim P base S w hp φ) (ht : ∀ x, Rep S w hp φ (ev tm x) (e x)) {t et : TypeId} {s x : Operand} (ho : o.op = .call { callee := .builtin .append, args := #[s, x], argTypes := #[t, t] }) (hu : P.underlying t = some (.slice et)) (hz : 0 < P.cellsOf et) {z : AV} (hzero : zero P et = some z) (hzl : z.cells.length = P.cellsOf et) (hz1 : z.cells.all AV.one = true)
    {news : List (List AV)} (hx : elsOf hp (P.cellsOf et) (ev tm x) = some news) (hsv : ev tm s = .nils) (hb : news.length * (P.bytesOf et + 1) ≤ 140737488355328) :
    Acts P base S w hp φ e o (.row hp.length news.length) (hp ++ [.row et (P.cellsOf et) news]) := by
  have hse := ht s
  rw [hsv] at hse
  obtain ⟨hs', htr⟩ := hs.nil_row et hz
  have := append_core (o := o) (id := hp.length) (els := []) hs' ho hu hz hzero hzl hz1 (Rep.mono htr.s (ht x) htr.hp) (elsOf_append hx) (by rw [← hs.len, hse.nils_inv]; simp) (by simp) (by simpa using hb)
  obtain ⟨u, S', φ', w', h1, h2, h3, h4⟩ := this
  have e1 : (hp ++ [Ob.row et (P.cellsOf et) []]).set hp.length (.row et (P.cellsOf et) ([] ++ news)) = hp ++ [.row et (P.cellsOf et) news] := by simp
  rw [e1] at h2 h3 h4
  refine ⟨u, S', φ', w', h1, ?_, h3, htr.trans h4⟩
  simpa using h2
theorem acts_append_nil_arr (hs : Sim P base S w hp φ) (ht : ∀ x, Rep S w hp φ (ev tm x) (e x)) {t et : TypeId} {s x : Operand} (ho : o.op = .call { callee := .builtin .append, args := #[s, x], argTypes := #[t, t] }) (hu : P.underlying t = some (.slice et)) (hz : 0 < P.cellsOf et) {z : AV} (hzero : zero P et = some z) (hzl : z.cells.length = P.cellsOf et) (hz1 : z.cells.all AV.one = true)
    {news : List (List AV)} (hx : elsOf hp (P.cellsOf et) (ev tm x) = some news) (hsv : ev tm s = .nils) (hb : news.length * (P.bytesOf et + 1) ≤ 140737488355328) (hne : news.length ≠ 0) :
    Acts P base S w hp φ e o (.own hp.length 0 news.length) (hp ++ [.arr (P.cellsOf et) news]) := by
  obtain ⟨ad, c, nvss, hxe, hnr, hnl, hnc, hnn⟩ := src_of hs (ht x) hx
  have hln := hnr.length
  have hno : Ones nvss.flatten := by
    intro u hu
    obtain ⟨vs, hvs, hu⟩ := List.mem_flatten.1 hu
    obtain ⟨k, hk, rfl⟩ := List.getElem_of_mem hvs
    obtain ⟨el, hel⟩ : ∃ el, news[k]? = some el := ⟨_, List.getElem?_eq_getElem (by omega)⟩
    obtain ⟨vs', e1, e2, e3⟩ := hnr.get hel
    rw [List.getElem?_eq_getElem hk] at e1; cases e1
    exact e3 u hu
  have hse := ht s
  rw [hsv] at hse
  have hse := hse.nils_inv
  cases ad with
  | none => exact absurd (by rw [(hnn rfl).1]; rfl) hne
  | some ad =>
    obtain ⟨i, zv, hi, hzv, hlit⟩ := zero_of hzero
    have hisz : i.size = P.cellsOf et := by simp [Program.cellsOf, hi]
    have hby : P.bytesOf et = i.bytes := by simp [Program.bytesOf, hi]
    have hb' := hb
    rw [hby, Nat.mul_add, Nat.mul_one] at hb'
    obtain ⟨v', w', hr, hown', _⟩ := append_own (ty := o.type) hu rfl hz hzero hzl hz1 (World.ownsRow_nil w base et (P.cellsOf et)) hs.low (ad := some ad) (m := news.length) (c := c) (news := nvss.flatten) (by rw [flatten_len hnl, hln]) hnc (fun ha => by cases ha) hno (by rw [Nat.zero_add]; exact hb)
    have hrun := run_append_nil (P := P) w t o.type et i zv hu hi hzv ad news.length c nvss.flatten (by rw [flatten_len hnl, hln, hisz]) (fun j u hj => by
      obtain ⟨a, e1, e2⟩ := hnc j u hj
      cases e1; exact e2) (by omega) (by omega) (by omega)
    rw [hrun] at hr
    injection hr with e1 e2
    subst e1
    rcases hown'.2 with ⟨h, _⟩ | ⟨g, cap, cur, hv', hbg, hgg, hn, hcap, _⟩
    · cases h
    · simp only [Value.slice.injEq] at hv'
      obtain ⟨_, _, rfl⟩ := hv'
      have hs1 := hs.drew
      have hnr1 : Repss S w.drew news nvss := Repss.mono (show SExt S w S w.drew from fun b o h => ⟨h, rfl⟩) hnr
      obtain ⟨g1, g2⟩ := hs1.alloc_arr (E := et) hnr1 hnl (Builtin.zeroCells zv.cells (grownCap w news.length 0 et - news.length)).toList
      have earr : (nvss.flatten ++ (Builtin.zeroCells zv.cells (grownCap w news.length 0 et - news.length)).toList).toArray = nvss.flatten.toArray ++ Builtin.zeroCells zv.cells (grownCap w news.length 0 et - news.length) := by
        apply Array.ext'; simp
      rw [earr] at g1 g2
      have hdr : Trans base S w hp φ S w.drew hp φ := ⟨fun b o h => ⟨h, rfl⟩, .refl _ _, (Below.refl _ _).drew, fun _ _ h => .inl h⟩
      rw [Nat.zero_add] at hn
      refine ⟨_, S, _, _, .inl ?_, .own _ _ hp.length 0 news.length w.heap.size (P.cellsOf et) news (grownCap w news.length 0 et) (by rw [← hs.len]; simp) (by rw [nth?_eq]; simp) (by omega) (some ⟨w.heap.size, 0, none⟩) (fun _ => by simp) ⟨hn, hcap, fun h => by cases h⟩, g1, hdr.trans g2⟩
      simp only [execOp, ho, resolve, invoke, builtin, Sem.run_bind, Sem.run_pure, Result.andThen_ok, List.map_toArray, List.map_cons, List.map_nil, hxe, hse, hrun]
theorem acts_append_nil_none (hs : Sim P base S w hp φ) (ht : ∀ x, Rep S w hp φ (ev tm x) (e x)) {t et : TypeId} {s x : Operand} (ho : o.op = .call { callee := .builtin .append, args := #[s, x], argTypes := #[t, t] }) (hu : P.underlying t = some (.slice et)) (hz : 0 < P.cellsOf et) {z : AV} (hzero : zero P et = some z) (hzl : z.cells.length = P.cellsOf et) (hz1 : z.cells.all AV.one = true)
    {news : List (List AV)} (hx : elsOf hp (P.cellsOf et) (ev tm x) = some news) (hsv : ev tm s = .nils) (he : news.length = 0) :
    Acts P base S w hp φ e o .nils hp := by
  obtain ⟨ad, c, nvss, hxe, hnr, hnl, hnc, hnn⟩ := src_of hs (ht x) hx
  have hln := hnr.length
  have hnv : nvss = [] := List.eq_nil_of_length_eq_zero (by omega)
  subst hnv
  have hse := ht s
  rw [hsv] at hse
  have hse := hse.nils_inv
  obtain ⟨v', w', hr, hown', hgrow, hold, hblk, hm0⟩ := append_own (ty := o.type) hu rfl hz hzero hzl hz1 (World.ownsRow_nil w base et (P.cellsOf et)) hs.low (ad := ad) (m := news.length) (c := c) (news := []) (by rw [he]; simp) (fun j u hj => by simp at hj) (fun ha => ⟨he, by obtain ⟨_, e2⟩ := hnn ha; exact e2⟩) (by intro v hv; simp at hv) (by rw [he]; omega)
  obtain rfl := hm0 he
  have hblock : ∀ b, b < w.heap.size → w'.heap[b]? = w.heap[b]? := fun b hb => hgrow.block b hb (by simp [Value.ownBlock])
  have hS1 : SExt S w S w' := fun b ob hb => ⟨hb, by
    obtain ⟨u, hu'⟩ := hs.cell b ob hb
    exact World.cell?_of_block (a := ⟨b, ob, none⟩) (hblock b (cell_lt hu'))⟩
  have hkeep : Sim P base S w' hp φ := hs.keep hS1 hgrow.size (fun b o hb => by
    obtain ⟨u, hu⟩ := hs.cell b o hb
    exact ⟨u, (hS1 b o hb).2.trans hu⟩) fun id b hb => ⟨hblock b (hs.block_lt hb).2, fun o => .rfl⟩
  refine ⟨_, S, φ, w', .inl ?_, .nils _ _, hkeep, ⟨hS1, .refl _ _, (Below.refl _ _).grown hgrow hs.low fun k hk => by simp [Value.ownBlock] at hk, fun _ _ h => .inl h⟩⟩
  simp only [execOp, ho, resolve, invoke, builtin, Sem.run_bind, Sem.run_pure, Result.andThen_ok, List.map_toArray, List.map_cons, List.map_nil, hxe, hse, hr]
end
end Go.Proofs.Ytaocgmkcjemecaa
end

/- The interpreter is sound: every operation. Parts of the proofs of the laws. Conditions: none. -/
section
namespace Go.Proofs.Ytaocgmkcjemecaa
open Go.RowKit
set_option linter.unusedVariables false
set_option linter.unusedSimpArgs false

/-- A call that is what the interpreter says. -/
def SoundCall (P : Program) (H : Hints) (call : CallT) : Prop := ∀ (st : Bool) (g : FuncId) (args : List AV) (hp : Hp) (v : AV) (hp' : Hp), call st g args hp = some (v, hp') → ∀ (base : Nat) (S : Nat → Nat → Prop) (w : World) (φ : List Pl) (vs : List Value), Sim P base S w hp φ → Reps S w hp φ args vs →
  Calls P g vs.toArray w fun e w' => ∃ u S' φ', e = .returned u ∧ Rep S' w' hp' φ' v u ∧ Sim P base S' w' hp' φ' ∧ Trans base S w hp φ S' w' hp' φ'

def GoodFn (P : Program) (g : FuncId) : Prop := ∃ fn, P.funcs[g]? = some fn ∧ (fn.name == "runtime.NumGoroutine") = false ∧ fn.body.isNone = false
def GoodH (P : Program) (H : Hints) : Prop := ∀ g, H.good.contains g = true → GoodFn P g

section
variable {S : Nat → Nat → Prop} {w : World} {hp : Hp} {φ : List Pl} {P : Program} {base : Nat} {e : Operand → Value} {o : Oper} {tm : Tm} {ρ : Type} {r : ρ} {K : AV → Option ρ}

theorem norm_rep {t : TypeId} {a : AV} {v : Value} (h : Rep S w hp φ a v) : Rep S w hp φ (norm P t a) v := by
  cases a <;> simp only [norm] <;> first | exact h | skip
  case nils => exact norm1_rep h
  case agg cs =>
    obtain ⟨vs, h1, h2, rfl⟩ := h.agg_inv
    exact .agg _ _ _ _ (norms_rep h1) h2
theorem normArgs_rep {ts : List TypeId} {l : List AV} {vs : List Value} (h : Reps S w hp φ l vs) : Reps S w hp φ (normArgs P ts l) vs := by
  induction ts generalizing l vs with
  | nil => cases l <;> exact h
  | cons t ts ih => cases l with
    | nil => exact h
    | cons a l => cases h with | cons _ _ _ v _ vs h t' => exact .cons _ _ _ _ _ _ (norm_rep h) (ih t')
theorem evs_rep (ht : ∀ x, Rep S w hp φ (ev tm x) (e x)) (l : List Operand) : Reps S w hp φ (l.map (ev tm)) (l.map e) := by
  induction l with
  | nil => exact .nil _ _
  | cons x l ih => exact .cons _ _ _ _ _ _ (ht x) ih

theorem pure_sound (hs : Sim P base S w hp φ) (ht : ∀ x, Rep S w hp φ (ev tm x) (e x)) {op : Op} (ho : o.op = op) (h : pureOp P tm hp op K = some r) : ∃ v, K v = some r ∧ Acts P base S w hp φ e o v hp := by
  have fin : (∃ v, K v = some r ∧ Gives P S w hp φ e o v) → ∃ v, K v = some r ∧ Acts P base S w hp φ e o v hp := fun ⟨v, h1, h2⟩ => ⟨v, h1, h2.acts hs⟩
  unfold pureOp at h
  split at h
  case h_1 x => exact fin ⟨_, h, gives_move ht (.inl ho)⟩
  case h_2 x => exact fin ⟨_, h, gives_move ht (.inr ho)⟩
  case h_3 c x y =>
    split at h
    · rename_i t hc
      refine fin ⟨_, ?_, gives_pick ht ho hc⟩
      cases t <;> exact h
    · cases h
  case h_4 op t x y t' => exact fin (gives_binop ht ho h)
  case h_5 t x =>
    split at h
    · rename_i b hc; exact fin ⟨_, h, gives_not ht ho hc⟩
    · cases h
  case h_6 t x =>
    split at h
    · rename_i k n hc; exact fin ⟨_, h, gives_neg ht ho hc⟩
    · cases h
  case h_7 s t x =>
    split at h
    · rename_i k hu
      split at h
      · rename_i hs'
        split at h
        · rename_i k' n hx; exact fin ⟨_, h, gives_convert ht ho hu hs' hx⟩
        · cases h
      · cases h
    · cases h
  case h_8 x => exact fin (gives_nilCheck ht ho h)
  case h_9 t ps =>
    split at h
    · rename_i fs hu
      split at h
      · rename_i hall
        split at h
        · rename_i z hz
          split at h
          · rename_i cs hcs; exact fin ⟨_, h, gives_build ht ho hu hall hz hcs⟩
          · cases h
        · cases h
      · cases h
    · cases h
  case h_10 t n ps =>
    split at h
    · rename_i et he
      split at h
      · rename_i hc
        simp only [Bool.and_eq_true, decide_eq_true_eq] at hc
        obtain ⟨⟨rfl, h0⟩, hsz⟩ := hc
        split at h
        · rename_i z hz
          split at h
          · rename_i hc
            simp only [Bool.and_eq_true, decide_eq_true_eq] at hc
            obtain ⟨⟨h1, h2⟩, h3⟩ := hc
            split at h
            · rename_i els hels; exact ⟨_, h, (fresh_buildSlice hs ht ho (elem_of he) h3 h0 hsz hz h1 h2 hels).stay hs⟩
            · cases h
          · cases h
        · cases h
      · cases h
    · cases h
  case h_11 t n c =>
    split at h
    · rename_i et he
      split at h
      · rename_i l hn
        split at h
        · rename_i l' hc
          split at h
          · rename_i z hz
            split at h
            · rename_i hb
              simp only [Bool.and_eq_true, decide_eq_true_eq] at hb
              cases hzc : closeL [] (norms P (cellTys P 6 et) z.cells) with
              | none => rw [hzc] at h; cases h
              | some zc =>
              rw [hzc] at h
              simp only at h
              by_cases hq : ((decide (0 ≤ l) && decide (l = l')) && decide (P.bytesOf et * l ≤ 140737488355328)) = true
              · rw [hq] at h
                simp only [Bool.and_eq_true, decide_eq_true_eq] at hq
                obtain ⟨⟨q1, rfl⟩, q3⟩ := hq
                exact ⟨_, h, (fresh_makeSlice hs ht ho (elem_of he) hn hc q1 q3 hz hb.1 hb.2 hzc).stay hs⟩
              · rw [Bool.not_eq_true] at hq; rw [hq] at h; cases h
            · cases h
          · cases h
        · cases h
      · cases h
    · cases h
  case h_12 t x => exact fin (gives_load hs ht ho h)
  case h_13 t x f =>
    split at h
    · rename_i p hp'
      split at h
      · rename_i hz; exact fin (gives_fieldAddr ht ho hp' (of_decide_eq_true hz) h)
      · cases h
    · cases h
  case h_14 t x f =>
    split at h
    · rename_i p hp'
      split at h
      · rename_i cs hx; exact fin (gives_field ht ho hp' hx h)
      · cases h
    · cases h
  case h_15 t x y =>
    split at h
    · rename_i k i hi; exact fin (gives_indexAddr hs ht ho hi h)
    · cases h
  case h_16 t x y =>
    split at h
    · rename_i k i hi
      split at h
      · rename_i hu
        split at h
        · rename_i s hx
          by_cases hq : (decide (0 ≤ i) && decide (i < s.length)) = true
          · rw [hq] at h
            simp only [Bool.and_eq_true, decide_eq_true_eq] at hq
            simp only [cond_true] at h
            split at h
            · rename_i b hb; exact fin ⟨_, h, gives_index ht ho hi hu hx hq.1 hb⟩
            · cases h
          · rw [Bool.not_eq_true] at hq; rw [hq] at h; cases h
        · cases h
      · cases h
    · cases h
  case h_17 t x lo hi =>
    split at h
    · rename_i hu
      split at h
      · rename_i s hx; exact fin (gives_cutStr ht ho hu hx h)
      · cases h
    · rename_i et hu
      split at h
      · rename_i hz; exact fin (gives_cutS hs ht ho hu (of_decide_eq_true hz) h)
      · cases h
    · cases h
  case h_18 x k =>
    split at h
    · rename_i cs hx
      split at h
      · rename_i v hv; exact fin ⟨_, h, gives_extract ht ho hx hv⟩
      · cases h
    · cases h
  case h_19 f a b => exact fin ⟨_, h, gives_makeFunc ht ho⟩
  case h_20 c =>
    obtain ⟨cal, args, ats⟩ := c
    simp only at h
    split at h
    · split at h
      · rename_i x
        split at h
        · rename_i t
          split at h
          · rename_i hu
            split at h
            · rename_i s hx; exact fin ⟨_, h, gives_len_str ht ho hu hx⟩
            · cases h
          · rename_i et hu; exact fin (gives_len_slice ht ho hu h)
          · cases h
        · cases h
      · cases h
    · split at h
      · rename_i x y
        split at h
        · rename_i k a hx
          split at h
          · rename_i k' b hy
            split at h
            · rename_i hk; exact fin ⟨_, h, gives_min ht ho hx hy (of_decide_eq_true hk)⟩
            · cases h
          · cases h
        · cases h
      · cases h
    · split at h
      · rename_i x y
        split at h
        · rename_i k a hx
          split at h
          · rename_i k' b hy
            split at h
            · rename_i hk; exact fin ⟨_, h, gives_max ht ho hx hy (of_decide_eq_true hk)⟩
            · cases h
          · cases h
        · cases h
      · cases h
    · cases h
  case h_21 => cases h

theorem pure_fresh (hs : Sim P base S w hp φ) (ht : ∀ x, Rep S w hp φ (ev tm x) (e x)) {op : Op} (ho : o.op = op) {t : TypeId} (hop : (∃ n ps, op = .buildSlice t n ps) ∨ (∃ n c, op = .makeSlice t n c)) (h : pureOp P tm hp op K = some r) :
    ∃ et els, elemOf P t = some et ∧ K (.sl (P.cellsOf et) els) = some r ∧ FreshS P S w e o et (P.cellsOf et) els := by
  rcases hop with ⟨n, ps, rfl⟩ | ⟨n, c, rfl⟩
  · simp only [pureOp] at h
    split at h
    · rename_i et he
      split at h
      · rename_i hc
        simp only [Bool.and_eq_true, decide_eq_true_eq] at hc
        obtain ⟨⟨rfl, h0⟩, hsz⟩ := hc
        split at h
        · rename_i z hz
          split at h
          · rename_i hc
            simp only [Bool.and_eq_true, decide_eq_true_eq] at hc
            obtain ⟨⟨h1, h2⟩, h3⟩ := hc
            split at h
            · rename_i els hels; exact ⟨et, els, he, h, fresh_buildSlice hs ht ho (elem_of he) h3 h0 hsz hz h1 h2 hels⟩
            · cases h
          · cases h
        · cases h
      · cases h
    · cases h
  · simp only [pureOp] at h
    split at h
    · rename_i et he
      split at h
      · rename_i l hn
        split at h
        · rename_i l' hc
          split at h
          · rename_i z hz
            split at h
            · rename_i hb
              simp only [Bool.and_eq_true, decide_eq_true_eq] at hb
              cases hzc : closeL [] (norms P (cellTys P 6 et) z.cells) with
              | none => rw [hzc] at h; cases h
              | some zc =>
              rw [hzc] at h
              simp only at h
              by_cases hq : ((decide (0 ≤ l) && decide (l = l')) && decide (P.bytesOf et * l ≤ 140737488355328)) = true
              · rw [hq] at h
                simp only [Bool.and_eq_true, decide_eq_true_eq] at hq
                obtain ⟨⟨q1, rfl⟩, q3⟩ := hq
                exact ⟨et, _, he, h, fresh_makeSlice hs ht ho (elem_of he) hn hc q1 q3 hz hb.1 hb.2 hzc⟩
              · rw [Bool.not_eq_true] at hq; rw [hq] at h; cases h
            · cases h
          · cases h
        · cases h
      · cases h
    · cases h
theorem asOb_acts (hs : Sim P base S w hp φ) {t et : TypeId} {els : List (List AV)} (he : elemOf P t = some et) (hf : FreshS P S w e o et (P.cellsOf et) els) {b1 b2 : Bool} {K : AV → Hp → Option ρ} (h : asOb P t b1 b2 hp K (.sl (P.cellsOf et) els) = some r) : ∃ v hp', K v hp' = some r ∧ Acts P base S w hp φ e o v hp' := by
  unfold asOb at h
  cases b1 with
  | true =>
    rw [he] at h
    simp only at h
    split at h
    · rename_i hq
      simp only [Bool.and_eq_true, decide_eq_true_eq] at hq
      rw [forceHp_eq] at h
      exact ⟨_, _, h, hf.row hs rfl hq.2⟩
    · cases h
  | false =>
    cases b2 with
    | true => simp only [forceHp_eq] at h; exact ⟨_, _, h, hf.arr hs⟩
    | false => exact ⟨_, _, h, hf.stay hs⟩

theorem Acts.wp {a : Act} {v : AV} {hp' : Hp} {next : Act → World → Prop} {Q : Exit → Act → World → Prop} (h : Acts P base S w hp φ a.eval o v hp') (hn : ∀ u S' φ' w', Rep S' w' hp' φ' v u → Sim P base S' w' hp' φ' → Trans base S w hp φ S' w' hp' φ' → next (a.put o.dst u) w') : o.wp P a w next Q := by
  obtain ⟨u, S', φ', w', h1, h2, h3, h4⟩ := h
  unfold Oper.wp
  rcases h1 with h1 | ⟨h1, rfl⟩
  · rw [h1]; exact hn u S' φ' w' h2 h3 h4
  · rw [h1]; exact hn undef S' φ' w' h2 h3 h4

theorem run_callFunc {g : FuncId} {args : Array Value} (hg : GoodFn P g) : (callFunc g args).run P w = .ok (.enter g args) w := by
  obtain ⟨fn, h1, h2, h3⟩ := hg
  simp only [callFunc, Sem.run_bind, run_program, Result.andThen_ok, h1, h2, h3, Bool.false_eq_true, if_false, Sem.run_pure]

theorem stepV_sound {H : Hints} {call : CallT} (hH : GoodH P H) (hc : SoundCall P H call) {f : FuncId} {a : Act} {K : AV → Hp → Option ρ} (hs : Sim P base S w hp φ) (ht : ∀ x, Rep S w hp φ (ev tm x) (a.eval x)) (h : stepV P H call f o tm hp K = some r)
    {next : Act → World → Prop} {Q : Exit → Act → World → Prop} (hn : ∀ v hp' u S' φ' w', K v hp' = some r → Rep S' w' hp' φ' v u → Sim P base S' w' hp' φ' → Trans base S w hp φ S' w' hp' φ' → next (a.put o.dst u) w') : o.wp P a w next Q := by
  have fin : (∃ v hp', K v hp' = some r ∧ Acts P base S w hp φ a.eval o v hp') → o.wp P a w next Q := fun ⟨v, hp', h1, h2⟩ => h2.wp fun u S' φ' w' h3 h4 h5 => hn v hp' u S' φ' w' h1 h3 h4 h5
  have pur : ∀ {op : Op}, o.op = op → pureOp P tm hp op (fun v => K v hp) = some r → o.wp P a w next Q := fun ho h => by
    obtain ⟨v, h1, h2⟩ := pure_sound hs ht ho h
    exact fin ⟨v, hp, h1, h2⟩
  unfold stepV at h
  split at h
  case h_1 x ho =>
    split at h
    · rename_i hx
      split at h
      · split at h
        · rename_i et he
          split at h
          · rename_i hz
            rw [forceHp_eq] at h
            exact fin ⟨_, _, h, acts_nil hs ht ho hx (of_decide_eq_true hz)⟩
          · cases h
        · cases h
      · exact fin ⟨_, _, h, by rw [← hx]; exact (gives_move ht (.inr ho)).acts hs⟩
    · exact fin ⟨_, _, h, (gives_move ht (.inr ho)).acts hs⟩
  case h_2 t n ps ho =>
    obtain ⟨et, els, he, hk, hf⟩ := pure_fresh hs ht ho (.inl ⟨_, _, rfl⟩) h
    exact fin (asOb_acts hs he hf hk)
  case h_3 t n c ho =>
    obtain ⟨et, els, he, hk, hf⟩ := pure_fresh hs ht ho (.inr ⟨_, _, rfl⟩) h
    exact fin (asOb_acts hs he hf hk)
  case h_4 t ho =>
    split at h
    · rename_i z hz
      split at h
      · rename_i hb
        simp only [Bool.and_eq_true, decide_eq_true_eq] at hb
        rw [forceHp_eq] at h
        exact fin ⟨_, _, h, acts_alloc hs ho hz hb.2⟩
      · cases h
    · cases h
  case h_5 t x ho =>
    split at h
    · rename_i hb
      rw [forceHp_eq] at h
      exact fin ⟨_, _, h, acts_box hs ht ho hb⟩
    · cases h
  case h_6 t y x ho =>
    split at h
    · rename_i hb
      simp only [Bool.and_eq_true, decide_eq_true_eq] at hb
      obtain ⟨⟨b1, b2⟩, b3⟩ := hb
      split at h
      · rename_i id off ha
        split at h
        · rename_i E cs hob
          by_cases hq : off + P.cellsOf t ≤ cs.length
          · rw [decide_eq_true hq] at h
            simp only [cond_true] at h
            rw [forceHp_eq] at h
            exact fin ⟨_, _, h, acts_store_var hs ht ho b1 b2 b3 ha hob hq⟩
          · rw [decide_eq_false hq] at h; cases h
        · cases h
      · rename_i id i off ha
        split at h
        · rename_i size els hob
          split at h
          · rename_i el hel
            split at h
            · rename_i c hcl
              by_cases hq : off + P.cellsOf t ≤ el.length
              · rw [decide_eq_true hq] at h
                simp only [cond_true] at h
                rw [forceHp_eq] at h
                exact fin ⟨_, _, h, acts_store_arr hs ht ho b1 b2 b3 ha hob hel hcl hq⟩
              · rw [decide_eq_false hq] at h; cases h
            · cases h
          · cases h
        · cases h
      · cases h
    · cases h
  case h_7 c ho =>
    obtain ⟨cal, args, ats⟩ := c
    simp only at h
    split at h
    · rename_i fo
      split at h
      · rename_i g x y hg
        split at h
        · rename_i hgood
          have hgf := hH g hgood
          have hfo := ht fo
          rw [hg] at hfo
          obtain ⟨fa, fb, hx, hy, he⟩ := hfo.func_inv
          have hargs := evs_rep ht args.toList
          have hrun : (execOp a.eval o).run P w = .ok (.enter g (fa ++ args.toList.map a.eval ++ fb).toArray) w := by
            have e1 : (fa.toArray ++ args.map a.eval) ++ fb.toArray = (fa ++ args.toList.map a.eval ++ fb).toArray := by
              apply Array.ext'; simp
            simp only [execOp, ho, resolve, he, Deferred.ofValue, invoke, Sem.run_bind, Sem.run_pure, Result.andThen_ok, run_callFunc hgf, e1]
          split at h
          · split at h
            · rename_i v hp' hcall
              have := hc _ _ _ hp v hp' hcall base S w φ _ hs (Reps.append (Reps.append hx hargs) hy)
              unfold Oper.wp
              rw [hrun]
              refine this.mono ?_
              rintro e w' ⟨u, S', φ', rfl, h1, h2, h3⟩
              exact hn v hp' u S' φ' w' h h1 h2 h3
            · cases h
          · split at h
            · split at h
              · rename_i as has
                split at h
                · rename_i v hpn hcall
                  rw [forceHp_eq] at h
                  have hcl := closeArgs_rep (Reps.append (Reps.append hx (normArgs_rep hargs)) hy) has
                  have hs0 : Sim P w.heap.size S w [] [] := ⟨rfl, Nat.le_refl _, hs.cell, fun id o ho => by simp at ho, fun i j b hi => by simp [blockAt] at hi⟩
                  have := hc true g as [] v hpn hcall w.heap.size S w [] _ hs0 hcl
                  unfold Oper.wp
                  rw [hrun]
                  refine this.mono ?_
                  rintro e w' ⟨u, S', φ', rfl, h1, h2, h3⟩
                  obtain ⟨k1, k2, k3⟩ := hs.adopt h1 h2 h3
                  exact hn _ _ u S' (φ ++ φ') w' h k1 k2 k3
                · cases h
              · cases h
            split at h
            · split at h
              · rename_i as has
                split at h
                · rename_i v hcall
                  have hcl := closeArgs_rep (Reps.append (Reps.append hx (normArgs_rep hargs)) hy) has
                  have hs0 : Sim P w.heap.size S w [] [] := ⟨rfl, Nat.le_refl _, hs.cell, fun id o ho => by simp at ho, fun i j b hi => by simp [blockAt] at hi⟩
                  have := hc false g as [] v [] hcall w.heap.size S w [] _ hs0 hcl
                  unfold Oper.wp
                  rw [hrun]
                  refine this.mono ?_
                  rintro e w' ⟨u, S', φ', rfl, h1, h2, h3⟩
                  have hφ : φ' = [] := List.eq_nil_of_length_eq_zero h2.len
                  subst hφ
                  have hkeep : Sim P base S' w' hp φ := hs.keep h3.s h3.below.size h2.cell fun id b hb => by
                    have hlt := (hs.block_lt hb).2
                    exact ⟨h3.below.block b hlt, fun o => ⟨fun h => (h3.new b o h).elim (fun h => h) fun h => by omega, fun h => (h3.s b o h).1⟩⟩
                  exact hn v hp u S' φ w' h h1.lift hkeep ⟨h3.s, .refl _ _, h3.below.mono hs.low, fun b o h => (h3.new b o h).elim .inl fun h => .inr (Nat.le_trans hs.low h)⟩
                · cases h
              · cases h
            · split at h
              · rename_i as has
                split at h
                · rename_i v hcall
                  split at h
                  · rename_i hfl
                    have hcl := closeOArgs_rep hs (Reps.append (Reps.append hx (normArgs_rep hargs)) hy) has
                    have hs0 : Sim P w.heap.size (withArr S w hp φ) w [] [] := ⟨rfl, Nat.le_refl _, withArr_cell hs, fun id o ho => by simp at ho, fun i j b hi => by simp [blockAt] at hi⟩
                    have := hc false g as [] v [] hcall w.heap.size (withArr S w hp φ) w [] _ hs0 hcl
                    unfold Oper.wp
                    rw [hrun]
                    refine this.mono ?_
                    rintro e w' ⟨u, S', φ', rfl, h1, h2, h3⟩
                    have hS1 : SExt S w S w' := fun b o hb => ⟨hb, (h3.s b o (.inl hb)).2⟩
                    have hkeep : Sim P base S w' hp φ := hs.keep hS1 h3.below.size (fun b o hb => by
                      obtain ⟨u, hu⟩ := hs.cell b o hb
                      exact ⟨u, (hS1 b o hb).2.trans hu⟩) fun id b hb => ⟨h3.below.block b (hs.block_lt hb).2, fun o => .rfl⟩
                    exact hn v hp u S φ w' h (flat_rep hfl h1) hkeep ⟨hS1, .refl _ _, h3.below.mono hs.low, fun b o h => .inl h⟩
                  · cases h
                · cases h
              · cases h
        · cases h
      · cases h
    · split at h
      · rename_i s x
        split at h
        · rename_i t t'
          split at h
          · rename_i htt
            have htt := of_decide_eq_true htt
            subst htt
            split at h
            · rename_i et he
              split at h
              · rename_i z hz
                split at h
                · rename_i hb
                  simp only [Bool.and_eq_true, decide_eq_true_eq] at hb
                  obtain ⟨⟨b1, b2⟩, b3⟩ := hb
                  split at h
                  · rename_i news hnews
                    split at h
                    · rename_i hsv
                      by_cases hq : news.length * (P.bytesOf et + 1) ≤ 140737488355328
                      · rw [decide_eq_true hq] at h
                        simp only [cond_true] at h
                        split at h
                        · rw [forceHp_eq] at h
                          exact fin ⟨_, _, h, acts_append_nil hs ht ho (elem_of he) b3 hz b1 b2 hnews hsv hq⟩
                        · by_cases hq2 : news.length = 0
                          · rw [decide_eq_true hq2] at h
                            simp only [cond_true] at h
                            exact fin ⟨_, _, h, acts_append_nil_none hs ht ho (elem_of he) b3 hz b1 b2 hnews hsv hq2⟩
                          · rw [decide_eq_false hq2] at h
                            simp only [cond_false] at h
                            rw [forceHp_eq] at h
                            exact fin ⟨_, _, h, acts_append_nil_arr hs ht ho (elem_of he) b3 hz b1 b2 hnews hsv hq hq2⟩
                      · rw [decide_eq_false hq] at h; cases h
                    · rename_i id n hsv
                      split at h
                      · rename_i e' size els hob
                        split at h
                        · rename_i hq1
                          simp only [Bool.and_eq_true, decide_eq_true_eq] at hq1
                          obtain ⟨rfl, rfl⟩ := hq1
                          by_cases hq : (decide (n = els.length) && decide ((els.length + news.length) * (P.bytesOf e' + 1) ≤ 140737488355328)) = true
                          · rw [hq] at h
                            simp only [Bool.and_eq_true, decide_eq_true_eq] at hq
                            simp only [cond_true] at h
                            rw [forceHp_eq] at h
                            exact fin ⟨_, _, h, acts_append hs ht ho (elem_of he) b3 hz b1 b2 hnews hsv hob hq.1 hq.2⟩
                          · rw [Bool.not_eq_true] at hq; rw [hq] at h; cases h
                        · cases h
                      · cases h
                    · cases h
                  · cases h
                · cases h
              · cases h
            · cases h
          · cases h
        · cases h
      · cases h
    · rw [ho] at h; exact pur ho h
  case h_8 => exact pur rfl h
end
end Go.Proofs.Ytaocgmkcjemecaa
end

/- The interpreter is sound: regions in one order, and what is left of values. Parts of the proofs of the laws. Conditions: none. -/
section
namespace Go.Proofs.Ytaocgmkcjemecaa
open Go.RowKit
set_option linter.unusedVariables false
set_option linter.unusedSimpArgs false

section
variable {S : Nat → Nat → Prop} {w : World} {hp : Hp} {φ : List Pl} {P : Program} {base : Nat} {H : Hints} {call : CallT} {f : FuncId} {ops : Array Oper} {tm : Tm} {ρ : Type} {r : ρ}

theorem reps_put {a : Act} (h : Reps S w hp φ tm a.tmps.toList) (d : Option Tmp) {v : AV} {u : Value} (hv : Rep S w hp φ v u) : Reps S w hp φ (put tm d v) (a.put d u).tmps.toList := by
  cases d with
  | none => exact h
  | some d =>
    simp only [put, Act.put, setNth_eq, Array.toList_setIfInBounds]
    exact h.set d hv
theorem put_defers (a : Act) (d : Option Tmp) (u : Value) : (a.put d u).defers = a.defers := by cases d <;> rfl

theorem yielded_of {a : Act} (h : Reps S w hp φ tm a.tmps.toList) {j t : Nat} (hj : (nth? ops.toList j).bind (·.dst) = some t) {b : Bool} (hb : nth .junk tm t = .bool b) : yielded ops a.tmps j = some b := by
  rw [nth?_eq] at hj
  have h1 : (ops[j]?).bind (·.dst) = some t := by simpa using hj
  rw [nth_eq] at hb
  cases ht : tm[t]? with
  | none => rw [ht] at hb; cases hb
  | some av =>
    rw [ht] at hb
    simp only [Option.getD_some] at hb
    subst hb
    obtain ⟨v, hv, hr⟩ := h.get' ht
    have := hr.bool_inv
    subst this
    have h2 : a.tmps[t]? = some (.bool b) := by simpa using hv
    simp [yielded, h1, h2]

theorem yielded_undef {a : Act} (h : Reps S w hp φ tm a.tmps.toList) {j t : Nat} (hj : (nth? ops.toList j).bind (·.dst) = some t) (hb : nth .junk tm t = .tup []) : yielded ops a.tmps j = none := by
  rw [nth?_eq] at hj
  have h1 : (ops[j]?).bind (·.dst) = some t := by simpa using hj
  rw [nth_eq] at hb
  cases ht : tm[t]? with
  | none => rw [ht] at hb; cases hb
  | some av =>
    rw [ht] at hb
    simp only [Option.getD_some] at hb
    subst hb
    obtain ⟨v, hv, hr⟩ := h.get' ht
    obtain ⟨vs, h3, rfl⟩ := hr.tup_inv
    cases h3
    have h2 : a.tmps[t]? = some (.tuple #[]) := by simpa using hv
    simp [yielded, h1, h2]

/-- One operation, with its guard. -/
theorem oper_sound (hH : GoodH P H) (hc : SoundCall P H call) {o : Oper} {a : Act} (hs : Sim P base S w hp φ) (ht : Reps S w hp φ tm a.tmps.toList) {C : Tm → Hp → Option ρ}
    (h : (match o.guard with
      | none => stepV P H call f o tm hp fun v hp => putK tm o.dst v fun tm => C tm hp
      | some (j, want) => match (nth? ops.toList j).bind (·.dst) with
        | none => none
        | some t => match nth .junk tm t with
          | .bool b => match want with
            | true => bif b then stepV P H call f o tm hp (fun v hp => putK tm o.dst v fun tm => C tm hp) else (putK tm o.dst (.tup []) fun tm => C tm hp)
            | false => bif b then (putK tm o.dst (.tup []) fun tm => C tm hp) else stepV P H call f o tm hp (fun v hp => putK tm o.dst v fun tm => C tm hp)
          | .tup [] => putK tm o.dst (.tup []) fun tm => C tm hp
          | _ => none) = some r)
    {next : Act → World → Prop} {Q : Exit → Act → World → Prop}
    (hn : ∀ tm' hp' S' φ' a' w', C tm' hp' = some r → Reps S' w' hp' φ' tm' a'.tmps.toList → Sim P base S' w' hp' φ' → Trans base S w hp φ S' w' hp' φ' → a'.defers = a.defers → next a' w') :
    if Region.wanted o (yielded ops a.tmps) then o.wp P a w next Q else next (a.put o.dst undef) w := by
  have hev := fun x => ev_rep ht x
  have yes : stepV P H call f o tm hp (fun v hp => putK tm o.dst v fun tm => C tm hp) = some r → o.wp P a w next Q := fun h => by
    refine stepV_sound hH hc hs hev h fun v hp' u S' φ' w' h1 h2 h3 h4 => ?_
    rw [putK_eq] at h1
    exact hn _ hp' S' φ' _ w' h1 (reps_put (Reps.mono h4.s ht h4.hp) o.dst h2) h3 h4 (put_defers _ _ _)
  have no : (putK tm o.dst (.tup []) fun tm => C tm hp) = some r → next (a.put o.dst undef) w := fun h => by
    rw [putK_eq] at h
    exact hn _ hp S φ _ w h (reps_put ht o.dst (.tup _ _ [] [] (.nil _ _))) hs (.refl _ _ _ _ _) (put_defers _ _ _)
  cases hg : o.guard with
  | none =>
    rw [hg] at h
    rw [if_pos (by simp [Region.wanted, hg])]
    exact yes h
  | some p =>
    obtain ⟨j, want⟩ := p
    rw [hg] at h
    simp only at h
    cases hj : (nth? ops.toList j).bind (·.dst) with
    | none => rw [hj] at h; cases h
    | some t =>
      rw [hj] at h
      simp only at h
      cases hb : nth .junk tm t <;> rw [hb] at h <;> first | (cases h; done) | skip
      case tup l =>
        cases l with
        | cons _ _ => cases h
        | nil =>
          have hy := yielded_undef (ops := ops) ht hj hb
          have hw : Region.wanted o (yielded ops a.tmps) = false := by simp [Region.wanted, hg, hy]
          rw [hw, if_neg (by decide)]
          exact no h
      simp only at h
      rename_i b
      have hy := yielded_of (ops := ops) ht hj hb
      have hw : Region.wanted o (yielded ops a.tmps) = (b == want) := by simp [Region.wanted, hg, hy]
      rw [hw]
      cases want <;> cases b <;> simp only [cond_true, cond_false] at h
      · rw [if_pos (by decide)]; exact yes h
      · rw [if_neg (by decide)]; exact no h
      · rw [if_neg (by decide)]; exact no h
      · rw [if_pos (by decide)]; exact yes h

theorem runOps_sound (hH : GoodH P H) (hc : SoundCall P H call) {Q : Exit → Act → World → Prop} : ∀ (l : List Oper) (S : Nat → Nat → Prop) (w : World) (hp : Hp) (φ : List Pl) (tm : Tm) (a : Act) (K : Tm → Hp → Option ρ), Sim P base S w hp φ → Reps S w hp φ tm a.tmps.toList → runOps P H call f ops.toList l tm hp K = some r →
    (∀ tm' hp' S' φ' a' w', K tm' hp' = some r → Reps S' w' hp' φ' tm' a'.tmps.toList → Sim P base S' w' hp' φ' → Trans base S w hp φ S' w' hp' φ' → a'.defers = a.defers → Q .normal a' w') → wpList P ops Q l a w
  | [], S, w, hp, φ, tm, a, K, hs, ht, h, hn => hn _ _ _ _ _ _ h ht hs (.refl _ _ _ _ _) rfl
  | o :: l, S, w, hp, φ, tm, a, K, hs, ht, h, hn => by
    have := oper_sound (ops := ops) (C := fun tm hp => runOps P H call f ops.toList l tm hp K) hH hc hs ht (by
      exact h) (next := wpList P ops Q l) (Q := Q) fun tm' hp' S' φ' a' w' h1 h2 h3 h4 h5 => runOps_sound hH hc l S' w' hp' φ' tm' a' K h3 h2 h1 fun tm'' hp'' S'' φ'' a'' w'' g1 g2 g3 g4 g5 => hn _ _ _ _ _ _ g1 g2 g3 (h4.trans g4) (g5.trans h5)
    unfold wpList
    split
    · rename_i hw; rw [if_pos hw] at this; exact .inl this
    · rename_i hw; rw [if_neg hw] at this; exact this
end
end Go.Proofs.Ytaocgmkcjemecaa
end

/- The interpreter is sound: objects that are let go. Parts of the proofs of the laws. Conditions: none. -/
section
namespace Go.Proofs.Ytaocgmkcjemecaa
open Go.RowKit
set_option linter.unusedVariables false
set_option linter.unusedSimpArgs false

/-- The cells of arrays that are let go stay from now on. -/
def letGo (S : Nat → Nat → Prop) (w : World) (hp : Hp) (φ : List Pl) (h0 : Nat) : Nat → Nat → Prop := fun b o => S b o ∨ ∃ id size els, h0 ≤ id ∧ hp[id]? = some (.arr size els) ∧ φ[id]? = some (.blk b) ∧ ∃ v, w.cell? ⟨b, o, none⟩ = some v

section
variable {S : Nat → Nat → Prop} {w : World} {hp : Hp} {φ : List Pl} {P : Program} {base h0 : Nat}

theorem letGo_ext : SExt S w (letGo S w hp φ h0) w := fun b o h => ⟨.inl h, rfl⟩

theorem waneHp_at {id : Nat} (hid : id < h0) : (waneHp h0 hp)[id]? = (hp[id]?).map (waneOb h0 hp) := by
  simp [waneHp, List.getElem?_take, hid]
theorem take_at {id : Nat} (hid : id < h0) : (φ.take h0)[id]? = φ[id]? := by simp [List.getElem?_take, hid]

theorem wane1_rep (hs : Sim P base S w hp φ) {a : AV} {v : Value} (h : Rep S w hp φ a v) : Rep (letGo S w hp φ h0) w (waneHp h0 hp) (φ.take h0) (wane1 h0 hp a) v := by
  cases a <;> simp only [wane1] <;> first | exact .junk _ _ _ | skip
  case bool b => have := h.bool_inv; subst this; exact .bool _ _ _
  case int k n => obtain ⟨rfl, h1⟩ := h.int_inv; exact .int _ _ _ _ h1
  case str s => obtain ⟨rfl, h1⟩ := h.str_inv; exact .str _ _ _ h1
  case nilp => cases h; exact .nilp _ _
  case ptr id off =>
    obtain ⟨b, hb, rfl⟩ := h.ptr_inv
    by_cases hid : id < h0
    · rw [decide_eq_true hid]; exact .ptr _ _ id off b ((take_at hid).trans hb)
    · rw [decide_eq_false hid]; exact .junk _ _ _
  case pte id i off =>
    obtain ⟨b, size, els, hb, hob, rfl⟩ := h.pte_inv
    by_cases hid : id < h0
    · rw [decide_eq_true hid]
      exact .pte _ _ id i off b size els ((take_at hid).trans hb) (by rw [nth?_eq] at hob ⊢; rw [waneHp_at hid, hob]; rfl)
    · rw [decide_eq_false hid]; exact .junk _ _ _
  case rptr el off => obtain ⟨vs, b, ob, h1, h2, h3, rfl⟩ := h.rptr_inv; exact .rptr _ _ _ _ _ _ _ (Reps.mono letGo_ext h1 HpExt.nil) h2 fun j u hj => ⟨.inl (h3 j u hj).1, (h3 j u hj).2⟩
  case nils => have := h.nils_inv; subst this; exact .nils _ _
  case sl size els => obtain ⟨vss, a, cap, h1, h2, h3, rfl⟩ := h.sl_inv; exact .sl _ _ _ _ _ _ _ (Repss.mono letGo_ext h1) (h2.mono letGo_ext) h3
  case row id n =>
    obtain ⟨et, size, els, h1, h2, h3, h4⟩ := h.row_inv
    have h5 : Rep (letGo S w hp φ h0) w [] [] (.sl size (els.take n)) v := Rep.mono letGo_ext h3 HpExt.nil
    by_cases hid : id < h0
    · rw [decide_eq_true hid]
      exact .row _ _ id n v et size els (by rw [nth?_eq] at h1 ⊢; rw [waneHp_at hid, h1]; rfl) h2 h5 fun hn => (take_at hid).trans (h4 hn)
    · rw [decide_eq_false hid, h1]; exact h5.lift
  case own id off n =>
    obtain ⟨b, size, els, cap, ad, hb, hob, hle, had, hc, rfl⟩ := h.own_inv
    by_cases hid : id < h0
    · rw [decide_eq_true hid]
      exact .own _ _ id off n b size els cap ((take_at hid).trans hb) (by rw [nth?_eq] at hob ⊢; rw [waneHp_at hid, hob]; rfl) hle ad had hc
    · rw [decide_eq_false hid, hob]
      rw [nth?_eq] at hob
      obtain ⟨b', vss, ex, E', g1, g2, g3, g4, g5, g6⟩ := hs.obj id _ hob
      rw [hb] at g1; cases g1
      have hlen : ((els.drop off).take n).length = n := by rw [List.length_take, List.length_drop]; omega
      have := Rep.sl (S := letGo S w hp φ h0) (w := w) (waneHp h0 hp) (φ.take h0) size ((els.drop off).take n) ((vss.drop off).take n) ad cap (Repss.mono letGo_ext ((g4.drop off).take n)) ⟨fun vs hv => g5 vs (List.mem_of_mem_drop (List.mem_of_mem_take hv)), fun j vs t u hj hu => ?_⟩ (by rw [hlen]; exact hc)
      · rw [hlen] at this; exact this
      · rw [List.getElem?_take] at hj
        split at hj
        · rename_i hlt
          rw [List.getElem?_drop] at hj
          have htl : t < size := by rw [← g5 vs (List.mem_of_getElem? hj)]; exact nth?_lt hu
          have hf := flatten_at g5 hj htl
          rw [hu] at hf
          have hcell : w.cell? ⟨b, (off + j) * size + t, none⟩ = some u := by
            simp [World.cell?, g3]; simpa [List.getElem?_append_left (nth?_lt hf)] using hf
          have e1 : off * size + j * size + t = (off + j) * size + t := by rw [Nat.add_mul]
          exact ⟨b, off * size, had (by omega), .inr ⟨id, size, els, by omega, hob, hb, u, by rw [e1]; exact hcell⟩, by rw [e1]; exact hcell⟩
        · cases hj
  case func f x y =>
    cases x <;> cases y <;> simp only <;> first | exact .junk _ _ _ | skip
    obtain ⟨a, b, h1, h2, rfl⟩ := h.func_inv
    cases h1; cases h2
    exact .func _ _ _ _ _ _ _ (.nil _ _) (.nil _ _)
  case nilf => cases h; exact .nilf _ _
theorem reps_map {S' : Nat → Nat → Prop} {w' : World} {hp' : Hp} {φ' : List Pl} {g : AV → AV} (hg : ∀ a v, Rep S w hp φ a v → Rep S' w' hp' φ' (g a) v) {l : List AV} {vs : List Value} (h : Reps S w hp φ l vs) : Reps S' w' hp' φ' (l.map g) vs := by
  induction l generalizing vs with
  | nil => cases h; exact .nil _ _
  | cons a l ih => cases h with | cons _ _ _ v _ vs h t => exact .cons _ _ _ _ _ _ (hg a v h) (ih t)
theorem wane2_rep (hs : Sim P base S w hp φ) {a : AV} {v : Value} (h : Rep S w hp φ a v) : Rep (letGo S w hp φ h0) w (waneHp h0 hp) (φ.take h0) (wane2 h0 hp a) v := by
  cases a <;> simp only [wane2] <;> first | exact wane1_rep hs h | skip
  case agg cs =>
    obtain ⟨vs, h1, h2, rfl⟩ := h.agg_inv
    exact .agg _ _ _ _ (reps_map (fun a v h => wane1_rep hs h) h1) h2
  case func f x y =>
    obtain ⟨a, b, h1, h2, rfl⟩ := h.func_inv
    exact .func _ _ _ _ _ _ _ (reps_map (fun a v h => wane1_rep hs h) h1) (reps_map (fun a v h => wane1_rep hs h) h2)
theorem wane_rep (hs : Sim P base S w hp φ) {a : AV} {v : Value} (h : Rep S w hp φ a v) : Rep (letGo S w hp φ h0) w (waneHp h0 hp) (φ.take h0) (wane h0 hp a) v := by
  cases a <;> simp only [wane] <;> first | exact wane2_rep hs h | skip
  case tup cs =>
    obtain ⟨vs, h1, rfl⟩ := h.tup_inv
    exact .tup _ _ _ _ (reps_map (fun a v h => wane2_rep hs h) h1)
theorem keepTm_rep (hs : Sim P base S w hp φ) {keep : List Nat} {tm : Tm} {vs : List Value} (h : Reps S w hp φ tm vs) : ∀ i, Reps (letGo S w hp φ h0) w (waneHp h0 hp) (φ.take h0) (keepTm keep h0 hp i tm) vs := by
  induction tm generalizing vs with
  | nil => intro i; cases h; exact .nil _ _
  | cons a l ih => cases h with
    | cons _ _ _ v _ vs h t =>
      intro i
      refine .cons _ _ _ _ _ _ ?_ (ih t (i + 1))
      cases keep.contains i
      · exact .junk _ _ _
      · exact wane_rep hs h

theorem Sim.wane (hs : Sim P base S w hp φ) : Sim P base (letGo S w hp φ h0) w (waneHp h0 hp) (φ.take h0) := by
  have hat : ∀ i b, blockAt (φ.take h0) i = some b → i < h0 ∧ blockAt φ i = some b := by
    intro i b h
    unfold blockAt at h ⊢
    by_cases hi : i < h0
    · rw [take_at hi] at h; exact ⟨hi, h⟩
    · rw [List.getElem?_take, if_neg hi] at h; cases h
  have hno : ∀ i b, i < h0 → blockAt φ i = some b → ∀ o, letGo S w hp φ h0 b o ↔ S b o := by
    intro i b hi hb o
    refine ⟨fun h => ?_, .inl⟩
    rcases h with h | ⟨id, size, els, h1, h2, h3, _⟩
    · exact h
    · have := hs.apart i id b hb (by simp [blockAt, h3])
      omega
  refine ⟨by simp [waneHp, hs.len], hs.low, fun b o h => ?_, fun id o ho => ?_, fun i j b hi hj => hs.apart i j b (hat i b hi).2 (hat j b hj).2⟩
  · rcases h with h | ⟨_, _, _, _, _, _, h⟩
    · exact hs.cell b o h
    · exact h
  · have hid : id < h0 := by
      have := nth?_lt ho
      simp [waneHp] at this; omega
    rw [waneHp_at hid] at ho
    cases hob : hp[id]? with
    | none => rw [hob] at ho; simp at ho
    | some ob =>
      rw [hob] at ho
      simp only [Option.map_some, Option.some.injEq] at ho
      subst ho
      have hok := hs.obj id ob hob
      have hφ : (φ.take h0)[id]? = φ[id]? := take_at hid
      cases ob with
      | var t cs =>
        obtain ⟨b, vs, E, h1, h2, h3, h4, h5, h6⟩ := hok
        have hat' : blockAt φ id = some b := by simp [blockAt, h1]
        exact ⟨b, vs, E, hφ.trans h1, h2, h3, reps_map (fun a v h => wane2_rep hs h) h4, h5, fun o ho => h6 o ((hno id b hid hat' o).1 ho)⟩
      | arr size els =>
        obtain ⟨b, vss, ex, E, h1, h2, h3, h4, h5, h6⟩ := hok
        have hat' : blockAt φ id = some b := by simp [blockAt, h1]
        exact ⟨b, vss, ex, E, hφ.trans h1, h2, h3, Repss.mono letGo_ext h4, h5, fun o ho => h6 o ((hno id b hid hat' o).1 ho)⟩
      | row e size els =>
        obtain ⟨v, vss, h1, h2, h3, h4, h5, h6, h7⟩ := hok
        have hat' : ∀ g, v.ownBlock = some g → blockAt φ id = some g := fun g hg => by simp [blockAt, h1, hg]
        exact ⟨v, vss, hφ.trans h1, h2, Repss.mono letGo_ext h3, h4, h5, h6, fun g hg o => (hno id g hid (hat' g hg) o).trans (h7 g hg o)⟩

theorem Trans.wane {S0 : Nat → Nat → Prop} {w0 : World} {hp0 : Hp} {φ0 : List Pl} (hs : Sim P base S w hp φ) (h : Trans base S0 w0 hp0 φ0 S w hp φ) (h1 : hp0.length ≤ h0) (h2 : φ0.length = hp0.length) : Trans base S0 w0 hp0 φ0 (letGo S w hp φ h0) w (waneHp h0 hp) (φ.take h0) := by
  refine ⟨h.s.trans letGo_ext, ⟨fun id b hb => ?_, fun id size els he => ?_, fun id e size els he => ?_⟩, h.below, fun b o hb => ?_⟩
  · have := nth?_lt hb
    exact (take_at (by omega)).trans (h.hp.blk id b hb)
  · obtain ⟨els', e1, e2⟩ := h.hp.arr id size els he
    rw [nth?_eq] at he e1
    have := nth?_lt he
    exact ⟨els', by rw [nth?_eq, waneHp_at (by omega), e1]; rfl, e2⟩
  · obtain ⟨more, e1, e2⟩ := h.hp.row id e size els he
    rw [nth?_eq] at he e1
    have := nth?_lt he
    exact ⟨more, by rw [nth?_eq, waneHp_at (by omega), e1]; rfl, fun hm v hv => (take_at (by omega)).trans (e2 hm v hv)⟩
  · rcases hb with hb | ⟨id, size, els, _, hob, hφ, _⟩
    · exact h.new b o hb
    · exact .inr (hs.block_lt (id := id) (by simp [blockAt, hφ])).1
end
end Go.Proofs.Ytaocgmkcjemecaa
end
