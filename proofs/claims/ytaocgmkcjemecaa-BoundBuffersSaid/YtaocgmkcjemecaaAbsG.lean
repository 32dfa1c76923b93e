/- The interpreter is sound: what makes memory. Parts of the proofs of the laws. Conditions: none. -/
import Derived.Test.YtaocgmkcjemecaaAbsF
namespace Go.Proofs.Ytaocgmkcjemecaa
open Go.RowKit
set_option linter.unusedVariables false
set_option linter.unusedSimpArgs false

theorem owns_same {w w' : World} {base : Nat} {e : TypeId} {size : Nat} {v : Value} {n : Nat} {xs : List Value} (h : w.ownsRow base e size v n xs) (hb : ∀ b, v.ownBlock = some b → w'.heap[b]? = w.heap[b]?) : w'.ownsRow base e size v n xs := by
  refine ⟨h.1, ?_⟩
  rcases h.2 with hn | ⟨g, cap, cur, rfl, hbg, hgg, rest⟩
  · exact .inl hn
  · exact .inr ⟨g, cap, cur, rfl, hbg, by rw [hb g rfl]; exact hgg, rest⟩

section
variable {P : Program} {base : Nat} {S S' : Nat → Nat → Prop} {w w' : World} {hp hp' : Hp} {φ φ' : List Pl}

/-- An object that is not touched. -/
theorem ObOk.keep {id : Nat} {o : Ob} (h : ObOk P base S w hp φ id o) (hS : SExt S w S' w') (hE : HpExt hp φ hp' φ') (hφ : φ'[id]? = φ[id]?) (hb : ∀ b, blockAt φ id = some b → w'.heap[b]? = w.heap[b]? ∧ ∀ o, S' b o ↔ S b o) : ObOk P base S' w' hp' φ' id o := by
  cases o with
  | var t cs =>
    obtain ⟨b, vs, E, h1, h2, h3, h4, h5, h6⟩ := h
    have hat : blockAt φ id = some b := by simp [blockAt, h1]
    exact ⟨b, vs, E, hφ.trans h1, h2, (hb b hat).1.trans h3, Reps.mono hS h4 hE, h5, fun o ho => h6 o (((hb b hat).2 o).1 ho)⟩
  | arr size els =>
    obtain ⟨b, vss, ex, E, h1, h2, h3, h4, h5, h6⟩ := h
    have hat : blockAt φ id = some b := by simp [blockAt, h1]
    exact ⟨b, vss, ex, E, hφ.trans h1, h2, (hb b hat).1.trans h3, Repss.mono hS h4, h5, fun o ho => h6 o (((hb b hat).2 o).1 ho)⟩
  | row e size els =>
    obtain ⟨v, vss, h1, h2, h3, h4, h5, h6, h7⟩ := h
    have hat : ∀ b, v.ownBlock = some b → blockAt φ id = some b := fun b hb => by simp [blockAt, h1, hb]
    exact ⟨v, vss, hφ.trans h1, owns_same h2 fun b hv => (hb b (hat b hv)).1, Repss.mono hS h3, h4, h5, h6, fun g hg o => ((hb g (hat g hg)).2 o).trans (h7 g hg o)⟩

theorem owns_low {w : World} {base base' : Nat} {e : TypeId} {size : Nat} {v : Value} {n : Nat} {xs : List Value} (h : w.ownsRow base e size v n xs) (hb : base' ≤ base) : w.ownsRow base' e size v n xs := by
  refine ⟨h.1, ?_⟩
  rcases h.2 with hn | ⟨g, cap, cur, rfl, hbg, rest⟩
  · exact .inl hn
  · exact .inr ⟨g, cap, cur, rfl, Nat.le_trans hb hbg, rest⟩
theorem nth?_lt {α : Type} {l : List α} {i : Nat} {a : α} (h : l[i]? = some a) : i < l.length := (List.getElem?_eq_some_iff.1 h).1

/-- The block of an object is there. -/
theorem Sim.block_lt (hs : Sim P base S w hp φ) {id b : Nat} (h : blockAt φ id = some b) : base ≤ b ∧ b < w.heap.size := by
  have hid : id < φ.length := by
    unfold blockAt at h
    rcases Nat.lt_or_ge id φ.length with h' | h'
    · exact h'
    · rw [List.getElem?_eq_none h'] at h; cases h
  obtain ⟨o, ho⟩ : ∃ o, hp[id]? = some o := ⟨_, List.getElem?_eq_getElem (by rw [← hs.len]; exact hid)⟩
  have hob := hs.obj id o ho
  cases o with
  | var t cs =>
    obtain ⟨b', vs, E, h1, h2, h3, _⟩ := hob
    simp [blockAt, h1] at h; subst h
    exact ⟨h2, (Array.getElem?_eq_some_iff.1 h3).1⟩
  | arr size els =>
    obtain ⟨b', vs, ex, E, h1, h2, h3, _⟩ := hob
    simp [blockAt, h1] at h; subst h
    exact ⟨h2, (Array.getElem?_eq_some_iff.1 h3).1⟩
  | row e size els =>
    obtain ⟨v, vss, h1, h2, _⟩ := hob
    simp [blockAt, h1] at h
    exact h2.lt b h

/-- The worlds of the same objects. -/
theorem Sim.keep (hs : Sim P base S w hp φ) (hS : SExt S w S' w') (hsz : w.heap.size ≤ w'.heap.size) (hc : ∀ b o, S' b o → ∃ v, w'.cell? ⟨b, o, none⟩ = some v) (hb : ∀ id b, blockAt φ id = some b → w'.heap[b]? = w.heap[b]? ∧ ∀ o, S' b o ↔ S b o) : Sim P base S' w' hp φ :=
  ⟨hs.len, Nat.le_trans hs.low hsz, hc, fun id o ho => (hs.obj id o ho).keep hS (.refl _ _) rfl (hb id), hs.apart⟩

/-- The cells of a block that was just made stay. -/
def withNew (S : Nat → Nat → Prop) (g n : Nat) : Nat → Nat → Prop := fun b o => S b o ∨ (b = g ∧ o < n)

theorem cell_alloc_old (w : World) (ob : Obj) {b o : Nat} (h : b < w.heap.size) : (w.alloc ob).cell? ⟨b, o, none⟩ = w.cell? ⟨b, o, none⟩ := World.cell?_alloc_past ob b o h

theorem Sim.drew (hs : Sim P base S w hp φ) : Sim P base S w.drew hp φ := hs.keep (w' := w.drew) (fun b o h => ⟨h, rfl⟩) (Nat.le_refl _) hs.cell fun _ _ _ => ⟨rfl, fun _ => .rfl⟩

/-- A new block that stays. -/
theorem Sim.alloc_stay (hs : Sim P base S w hp φ) (vs : Array Value) (E : TypeId) (n : Nat) (hn : n ≤ vs.size) :
    Sim P base (withNew S w.heap.size n) (w.alloc (.cells vs E)) hp φ ∧ Trans base S w hp φ (withNew S w.heap.size n) (w.alloc (.cells vs E)) hp φ ∧ ∀ j u, vs[j]? = some u → (w.alloc (.cells vs E)).cell? ⟨w.heap.size, j, none⟩ = some u := by
  have hcell : ∀ j, (w.alloc (.cells vs E)).cell? ⟨w.heap.size, j, none⟩ = vs[j]? := fun j => World.cell?_alloc_at vs E w.heap.size j rfl
  have hS : SExt S w (withNew S w.heap.size n) (w.alloc (.cells vs E)) := fun b o h => ⟨.inl h, let ⟨v, hv⟩ := hs.cell b o h; cell_alloc_old w _ (cell_lt hv)⟩
  refine ⟨hs.keep hS (by simp) ?_ ?_, ⟨hS, .refl _ _, (Below.refl _ _).alloc hs.low _, ?_⟩, fun j u h => (hcell j).trans h⟩
  · rintro b o (h | ⟨rfl, h⟩)
    · obtain ⟨v, hv⟩ := hs.cell b o h
      exact ⟨v, (cell_alloc_old w _ (cell_lt hv)).trans hv⟩
    · exact ⟨_, (hcell o).trans (Array.getElem?_eq_getElem (by omega))⟩
  · intro id b hb
    have hlt := (hs.block_lt hb).2
    exact ⟨Below.heap_alloc w _ b hlt, fun o => ⟨fun h => h.elim (fun h => h) (fun h => by omega), .inl⟩⟩
  · rintro b o (h | ⟨rfl, _⟩)
    · exact .inl h
    · exact .inr hs.low

/-- A new block for a new object. -/
theorem Sim.alloc_obj (hs : Sim P base S w hp φ) (vs : List Value) (E t : TypeId) (cs : List AV) (hr : Reps S w hp φ cs vs) (h1 : Ones vs) :
    Sim P base S (w.alloc (.cells vs.toArray E)) (hp ++ [.var t cs]) (φ ++ [.blk w.heap.size]) ∧ Trans base S w hp φ S (w.alloc (.cells vs.toArray E)) (hp ++ [.var t cs]) (φ ++ [.blk w.heap.size]) := by
  have hS : SExt S w S (w.alloc (.cells vs.toArray E)) := fun b o h => ⟨h, let ⟨v, hv⟩ := hs.cell b o h; cell_alloc_old w _ (cell_lt hv)⟩
  have hE : HpExt hp φ (hp ++ [.var t cs]) (φ ++ [.blk w.heap.size]) := by
    refine ⟨fun id b h => ?_, fun id size els h => ⟨els, ?_, rfl⟩, fun id e size els h => ⟨[], ?_, fun _ v hv => ?_⟩⟩
    · rw [List.getElem?_append_left (nth?_lt h)]; exact h
    · rw [nth?_eq] at h ⊢; rw [List.getElem?_append_left (nth?_lt h)]; exact h
    · rw [nth?_eq] at h ⊢; rw [List.getElem?_append_left (nth?_lt h), List.append_nil]; exact h
    · rw [List.getElem?_append_left (nth?_lt hv)]; exact hv
  have hat : ∀ i b, blockAt (φ ++ [.blk w.heap.size]) i = some b → (i < φ.length ∧ blockAt φ i = some b) ∨ (i = φ.length ∧ b = w.heap.size) := by
    intro i b h
    unfold blockAt at h ⊢
    rcases Nat.lt_or_ge i φ.length with hi | hi
    · rw [List.getElem?_append_left hi] at h; exact .inl ⟨hi, h⟩
    · rw [List.getElem?_append_right hi] at h
      cases hk : i - φ.length with
      | zero => rw [hk] at h; simp at h; exact .inr ⟨by omega, h.symm⟩
      | succ k => rw [hk] at h; simp at h
  refine ⟨⟨by simp [hs.len], Nat.le_trans hs.low (by simp), fun b o h => ?_, fun id o ho => ?_, fun i j b hi hj => ?_⟩, ⟨hS, hE, (Below.refl _ _).alloc hs.low _, fun b o h => .inl h⟩⟩
  · obtain ⟨v, hv⟩ := hs.cell b o h
    exact ⟨v, (cell_alloc_old w _ (cell_lt hv)).trans hv⟩
  · rcases Nat.lt_or_ge id hp.length with hi | hi
    · rw [List.getElem?_append_left hi] at ho
      refine (hs.obj id o ho).keep hS hE (List.getElem?_append_left (by rw [hs.len]; exact hi)) fun b hb => ⟨Below.heap_alloc w _ b (hs.block_lt hb).2, fun _ => .rfl⟩
    · rw [List.getElem?_append_right hi] at ho
      cases hk : id - hp.length with
      | succ k => rw [hk] at ho; simp at ho
      | zero =>
        rw [hk] at ho
        simp at ho
        subst ho
        have : id = φ.length := by rw [hs.len]; omega
        subst this
        exact ⟨w.heap.size, vs, E, by simp, hs.low, heap_alloc_new w _, Reps.mono hS hr hE, h1, fun o ho => by
          obtain ⟨v, hv⟩ := hs.cell _ _ ho
          have := cell_lt hv
          omega⟩
  · rcases hat i b hi with ⟨i1, i2⟩ | ⟨i1, i2⟩ <;> rcases hat j b hj with ⟨j1, j2⟩ | ⟨j1, j2⟩
    · exact hs.apart i j b i2 j2
    · have := (hs.block_lt i2).2; omega
    · have := (hs.block_lt j2).2; omega
    · omega

/-- A new row for a nil slice. -/
theorem Sim.nil_row (hs : Sim P base S w hp φ) (e : TypeId) (hz : 0 < P.cellsOf e) :
    Sim P base S w (hp ++ [.row e (P.cellsOf e) []]) (φ ++ [.sv (.slice none 0 0)]) ∧ Trans base S w hp φ S w (hp ++ [.row e (P.cellsOf e) []]) (φ ++ [.sv (.slice none 0 0)]) := by
  have hE : HpExt hp φ (hp ++ [.row e (P.cellsOf e) []]) (φ ++ [.sv (.slice none 0 0)]) := by
    refine ⟨fun id b h => ?_, fun id size els h => ⟨els, ?_, rfl⟩, fun id e size els h => ⟨[], ?_, fun _ v hv => ?_⟩⟩
    · rw [List.getElem?_append_left (nth?_lt h)]; exact h
    · rw [nth?_eq] at h ⊢; rw [List.getElem?_append_left (nth?_lt h)]; exact h
    · rw [nth?_eq] at h ⊢; rw [List.getElem?_append_left (nth?_lt h), List.append_nil]; exact h
    · rw [List.getElem?_append_left (nth?_lt hv)]; exact hv
  have hat : ∀ i b, blockAt (φ ++ [.sv (.slice none 0 0)]) i = some b → blockAt φ i = some b := by
    intro i b h
    unfold blockAt at h ⊢
    rcases Nat.lt_or_ge i φ.length with hi | hi
    · rw [List.getElem?_append_left hi] at h; exact h
    · rw [List.getElem?_append_right hi] at h
      cases hk : i - φ.length with
      | zero => rw [hk] at h; simp [Value.ownBlock] at h
      | succ k => rw [hk] at h; simp at h
  refine ⟨⟨by simp [hs.len], hs.low, hs.cell, fun id o ho => ?_, fun i j b hi hj => hs.apart i j b (hat i b hi) (hat j b hj)⟩, ⟨.refl _ _, hE, .refl _ _, fun b o h => .inl h⟩⟩
  rcases Nat.lt_or_ge id hp.length with hi | hi
  · rw [List.getElem?_append_left hi] at ho
    exact (hs.obj id o ho).keep (.refl _ _) hE (List.getElem?_append_left (by rw [hs.len]; exact hi)) fun b hb => ⟨rfl, fun _ => .rfl⟩
  · rw [List.getElem?_append_right hi] at ho
    cases hk : id - hp.length with
    | succ k => rw [hk] at ho; simp at ho
    | zero =>
      rw [hk] at ho
      simp at ho
      subst ho
      have : id = φ.length := by rw [hs.len]; omega
      subst this
      exact ⟨.slice none 0 0, [], by simp, World.ownsRow_nil w base e _, .nil, by simp, hz, rfl, fun g hg => by simp [Value.ownBlock] at hg⟩

/-- A new block whose row may grow. -/
theorem Sim.alloc_row (hs : Sim P base S w hp φ) {e : TypeId} {size : Nat} {els : List (List AV)} {vss : List (List Value)} (hr : Repss S w els vss) (hl : ∀ vs ∈ vss, vs.length = size) (hsz : P.cellsOf e = size) (hz : 0 < size) (hn : els.length ≤ maxLen) :
    ∃ S', Sim P base S' (w.alloc (.cells vss.flatten.toArray e)) (hp ++ [.row e size els]) (φ ++ [.sv (.slice (some ⟨w.heap.size, 0, none⟩) els.length els.length)]) ∧ Trans base S w hp φ S' (w.alloc (.cells vss.flatten.toArray e)) (hp ++ [.row e size els]) (φ ++ [.sv (.slice (some ⟨w.heap.size, 0, none⟩) els.length els.length)]) ∧
      Rep S' (w.alloc (.cells vss.flatten.toArray e)) (hp ++ [.row e size els]) (φ ++ [.sv (.slice (some ⟨w.heap.size, 0, none⟩) els.length els.length)]) (.row hp.length els.length) (.slice (some ⟨w.heap.size, 0, none⟩) els.length els.length) := by
  obtain ⟨hs', htr, hc⟩ := hs.alloc_stay vss.flatten.toArray e vss.flatten.length (by simp)
  have hlv := hr.length
  have hfl := flatten_len hl
  have hE : HpExt hp φ (hp ++ [.row e size els]) (φ ++ [.sv (.slice (some ⟨w.heap.size, 0, none⟩) els.length els.length)]) := by
    refine ⟨fun id b h => ?_, fun id size els h => ⟨els, ?_, rfl⟩, fun id e size els h => ⟨[], ?_, fun _ v hv => ?_⟩⟩
    · rw [List.getElem?_append_left (nth?_lt h)]; exact h
    · rw [nth?_eq] at h ⊢; rw [List.getElem?_append_left (nth?_lt h)]; exact h
    · rw [nth?_eq] at h ⊢; rw [List.getElem?_append_left (nth?_lt h), List.append_nil]; exact h
    · rw [List.getElem?_append_left (nth?_lt hv)]; exact hv
  have hat : ∀ i b, blockAt (φ ++ [.sv (.slice (some ⟨w.heap.size, 0, none⟩) els.length els.length)]) i = some b → (i < φ.length ∧ blockAt φ i = some b) ∨ (i = φ.length ∧ b = w.heap.size) := by
    intro i b h
    unfold blockAt at h ⊢
    rcases Nat.lt_or_ge i φ.length with hi | hi
    · rw [List.getElem?_append_left hi] at h; exact .inl ⟨hi, h⟩
    · rw [List.getElem?_append_right hi] at h
      cases hk : i - φ.length with
      | zero => rw [hk] at h; simp [Value.ownBlock] at h; exact .inr ⟨by omega, h.symm⟩
      | succ k => rw [hk] at h; simp at h
  have hrr := Repss.mono htr.s hr
  have hlaid : Laid (withNew S w.heap.size vss.flatten.length) (w.alloc (.cells vss.flatten.toArray e)) (some ⟨w.heap.size, 0, none⟩) size vss := by
    refine ⟨hl, fun j vs t u hj hu => ?_⟩
    have htl : t < size := by rw [← hl vs (List.mem_of_getElem? hj)]; exact nth?_lt hu
    have hf := flatten_at hl hj htl
    rw [hu] at hf
    refine ⟨w.heap.size, 0, rfl, .inr ⟨rfl, ?_⟩, ?_⟩
    · rw [Nat.zero_add]; exact nth?_lt hf
    · rw [Nat.zero_add]; exact hc _ _ (by simpa using hf)
  refine ⟨withNew S w.heap.size vss.flatten.length, ⟨by simp [hs.len], hs'.low, hs'.cell, fun id o ho => ?_, fun i j b hi hj => ?_⟩, ⟨htr.s, hE, htr.below, htr.new⟩, ?_⟩
  · rcases Nat.lt_or_ge id hp.length with hi | hi
    · rw [List.getElem?_append_left hi] at ho
      exact (hs'.obj id o ho).keep (.refl _ _) hE (List.getElem?_append_left (by rw [hs.len]; exact hi)) fun b hb => ⟨rfl, fun _ => .rfl⟩
    · rw [List.getElem?_append_right hi] at ho
      cases hk : id - hp.length with
      | succ k => rw [hk] at ho; simp at ho
      | zero =>
        rw [hk] at ho
        simp at ho
        subst ho
        have : id = φ.length := by rw [hs.len]; omega
        subst this
        refine ⟨_, vss, by simp, ⟨by rw [hfl, hlv], .inr ⟨w.heap.size, els.length, vss.flatten.toArray, rfl, hs.low, heap_alloc_new w _, Nat.le_refl _, hn, by simp [hfl, hlv], ?_⟩⟩, hrr, hl, hz, hsz, fun g hg o => ?_⟩
        · rw [List.take_of_length_le (by simp [hfl, hlv])]
        · simp [Value.ownBlock] at hg
          subst hg
          constructor
          · rintro (h | ⟨_, h⟩)
            · obtain ⟨v, hv⟩ := hs.cell _ _ h
              have := cell_lt hv
              omega
            · rw [hlv, ← hfl]; exact h
          · intro h; exact .inr ⟨rfl, by rw [hfl, ← hlv]; exact h⟩
  · rcases hat i b hi with ⟨i1, i2⟩ | ⟨i1, i2⟩ <;> rcases hat j b hj with ⟨j1, j2⟩ | ⟨j1, j2⟩
    · exact hs.apart i j b i2 j2
    · have := (hs.block_lt i2).2; omega
    · have := (hs.block_lt j2).2; omega
    · omega
  · refine .row _ _ hp.length els.length _ e size els (by rw [nth?_eq]; simp) (Nat.le_refl _) ?_ fun _ => by rw [← hs.len]; simp
    rw [List.take_length]
    exact .sl _ _ size els vss _ _ hrr hlaid ⟨Nat.le_refl _, hn, fun h => by cases h⟩

/-- A new block of an array that is written. -/
theorem Sim.alloc_arr (hs : Sim P base S w hp φ) {E : TypeId} {size : Nat} {els : List (List AV)} {vss : List (List Value)} (hr : Repss S w els vss) (hl : ∀ vs ∈ vss, vs.length = size) (ex : List Value) :
    Sim P base S (w.alloc (.cells (vss.flatten ++ ex).toArray E)) (hp ++ [.arr size els]) (φ ++ [.blk w.heap.size]) ∧ Trans base S w hp φ S (w.alloc (.cells (vss.flatten ++ ex).toArray E)) (hp ++ [.arr size els]) (φ ++ [.blk w.heap.size]) := by
  have hS : SExt S w S (w.alloc (.cells (vss.flatten ++ ex).toArray E)) := fun b o h => ⟨h, let ⟨v, hv⟩ := hs.cell b o h; cell_alloc_old w _ (cell_lt hv)⟩
  have hE : HpExt hp φ (hp ++ [.arr size els]) (φ ++ [.blk w.heap.size]) := by
    refine ⟨fun id b h => ?_, fun id size els h => ⟨els, ?_, rfl⟩, fun id e size els h => ⟨[], ?_, fun _ v hv => ?_⟩⟩
    · rw [List.getElem?_append_left (nth?_lt h)]; exact h
    · rw [nth?_eq] at h ⊢; rw [List.getElem?_append_left (nth?_lt h)]; exact h
    · rw [nth?_eq] at h ⊢; rw [List.getElem?_append_left (nth?_lt h), List.append_nil]; exact h
    · rw [List.getElem?_append_left (nth?_lt hv)]; exact hv
  have hat : ∀ i b, blockAt (φ ++ [.blk w.heap.size]) i = some b → (i < φ.length ∧ blockAt φ i = some b) ∨ (i = φ.length ∧ b = w.heap.size) := by
    intro i b h
    unfold blockAt at h ⊢
    rcases Nat.lt_or_ge i φ.length with hi | hi
    · rw [List.getElem?_append_left hi] at h; exact .inl ⟨hi, h⟩
    · rw [List.getElem?_append_right hi] at h
      cases hk : i - φ.length with
      | zero => rw [hk] at h; simp at h; exact .inr ⟨by omega, h.symm⟩
      | succ k => rw [hk] at h; simp at h
  refine ⟨⟨by simp [hs.len], Nat.le_trans hs.low (by simp), fun b o h => ?_, fun id o ho => ?_, fun i j b hi hj => ?_⟩, ⟨hS, hE, (Below.refl _ _).alloc hs.low _, fun b o h => .inl h⟩⟩
  · obtain ⟨v, hv⟩ := hs.cell b o h
    exact ⟨v, (cell_alloc_old w _ (cell_lt hv)).trans hv⟩
  · rcases Nat.lt_or_ge id hp.length with hi | hi
    · rw [List.getElem?_append_left hi] at ho
      refine (hs.obj id o ho).keep hS hE (List.getElem?_append_left (by rw [hs.len]; exact hi)) fun b hb => ⟨Below.heap_alloc w _ b (hs.block_lt hb).2, fun _ => .rfl⟩
    · rw [List.getElem?_append_right hi] at ho
      cases hk : id - hp.length with
      | succ k => rw [hk] at ho; simp at ho
      | zero =>
        rw [hk] at ho
        simp at ho
        subst ho
        have : id = φ.length := by rw [hs.len]; omega
        subst this
        exact ⟨w.heap.size, vss, ex, E, by simp, hs.low, heap_alloc_new w _, Repss.mono hS hr, hl, fun o ho => by
          obtain ⟨v, hv⟩ := hs.cell _ _ ho
          have := cell_lt hv
          omega⟩
  · rcases hat i b hi with ⟨i1, i2⟩ | ⟨i1, i2⟩ <;> rcases hat j b hj with ⟨j1, j2⟩ | ⟨j1, j2⟩
    · exact hs.apart i j b i2 j2
    · have := (hs.block_lt i2).2; omega
    · have := (hs.block_lt j2).2; omega
    · omega

/-- What an operation does. -/
def Acts (P : Program) (base : Nat) (S : Nat → Nat → Prop) (w : World) (hp : Hp) (φ : List Pl) (e : Operand → Value) (o : Oper) (v : AV) (hp' : Hp) : Prop :=
  ∃ u S' φ' w', ((execOp e o).run P w = .ok (.value u) w' ∨ ((execOp e o).run P w = .ok .skip w' ∧ u = undef)) ∧ Rep S' w' hp' φ' v u ∧ Sim P base S' w' hp' φ' ∧ Trans base S w hp φ S' w' hp' φ'
end

section
variable {S : Nat → Nat → Prop} {w : World} {hp : Hp} {φ : List Pl} {P : Program} {base : Nat} {e : Operand → Value} {o : Oper} {tm : Tm} {ρ : Type} {r : ρ} {K : AV → Option ρ}

theorem Gives.acts {v : AV} (h : Gives P S w hp φ e o v) (hs : Sim P base S w hp φ) : Acts P base S w hp φ e o v hp := by
  obtain ⟨u, h1, h2⟩ := h
  exact ⟨u, S, φ, w, .inl h1, h2, hs, .refl _ _ _ _ _⟩

theorem run_newVar (t : TypeId) (v : Value) : (newVar t v).run P w = .ok ⟨w.heap.size, 0, none⟩ (w.alloc (.cells v.cells t)) := by simp only [newVar, newRow, newObj, Sem.run_bind, Sem.run_pure, Result.andThen_ok, Sem.run]; rfl
theorem acts_alloc (hs : Sim P base S w hp φ) {t : TypeId} (ho : o.op = .alloc t) {z : AV} (hz : zero P t = some z) (h1 : z.cells.all AV.one = true) : Acts P base S w hp φ e o (.ptr hp.length 0) (hp ++ [.var t z.cells]) := by
  obtain ⟨i, v, hi, hzv, rfl⟩ := zero_of hz
  have hrep : Rep S w hp φ (lit v) v := lit_rep v
  obtain ⟨hs', htr⟩ := hs.alloc_obj v.cells.toList t t (lit v).cells (hrep.cells_rep h1) (hrep.cells_ones h1)
  refine ⟨.pointer (some ⟨w.heap.size, 0, none⟩), S, _, _, .inl ?_, .ptr _ _ hp.length 0 w.heap.size (by rw [← hs.len]; simp), hs', htr⟩
  have h2 : (zeroValue t).run P w = .ok v w := by simp [zeroValue, typeInfo, hi, hzv]
  simp only [execOp, ho, Instr.alloc, Sem.run_bind, Sem.run_pure, Result.andThen_ok, h2, run_newVar]

theorem acts_box (hs : Sim P base S w hp φ) (ht : ∀ x, Rep S w hp φ (ev tm x) (e x)) {t : TypeId} {x : Operand} (ho : o.op = .box t x) (h1 : (ev tm x).cells.all AV.one = true) : Acts P base S w hp φ e o (.ptr hp.length 0) (hp ++ [.var t (ev tm x).cells]) := by
  have hx := ht x
  obtain ⟨hs', htr⟩ := hs.alloc_obj (e x).cells.toList t t (ev tm x).cells (hx.cells_rep h1) (hx.cells_ones h1)
  refine ⟨.pointer (some ⟨w.heap.size, 0, none⟩), S, _, _, .inl ?_, .ptr _ _ hp.length 0 w.heap.size (by rw [← hs.len]; simp), hs', htr⟩
  simp only [execOp, ho, Instr.box, Sem.run_bind, Sem.run_pure, Result.andThen_ok, run_newVar]

theorem acts_nil (hs : Sim P base S w hp φ) (ht : ∀ x, Rep S w hp φ (ev tm x) (e x)) {x : Operand} (ho : o.op = .assign x) (hx : ev tm x = .nils) {et : TypeId} (hz : 0 < P.cellsOf et) : Acts P base S w hp φ e o (.row hp.length 0) (hp ++ [.row et (P.cellsOf et) []]) := by
  have h := ht x
  rw [hx] at h
  obtain ⟨hs', htr⟩ := hs.nil_row et hz
  refine ⟨.slice none 0 0, S, _, w, .inl (by simp [execOp, ho, h.nils_inv]), .row _ _ hp.length 0 _ et (P.cellsOf et) [] (by rw [nth?_eq]; simp) (Nat.le_refl _) ?_ ?_, hs', htr⟩
  · exact .sl _ _ _ [] [] none 0 .nil ⟨by simp, fun j vs t u hj => by simp at hj⟩ ⟨Nat.le_refl _, by unfold maxLen; omega, fun _ => rfl⟩
  · intro _; rw [← hs.len]; simp

/-- A new block whose elements stay. -/
theorem acts_new (hs : Sim P base S w hp φ) {size : Nat} {els : List (List AV)} {vss : List (List Value)} (E : TypeId) (hr : Repss S w els vss) (hl : ∀ vs ∈ vss, vs.length = size) (rest : List Value) (hn : els.length ≤ maxLen)
    (hrun : (execOp e o).run P w = .ok (.value (.slice (some ⟨w.heap.size, 0, none⟩) els.length els.length)) (w.alloc (.cells vss.flatten.toArray E))) : Acts P base S w hp φ e o (.sl size els) hp := by
  obtain ⟨hs', htr, hc⟩ := hs.alloc_stay vss.flatten.toArray E vss.flatten.length (by simp)
  refine ⟨_, _, φ, _, .inl hrun, .sl _ _ size els vss (some ⟨w.heap.size, 0, none⟩) els.length (Repss.mono htr.s hr) ⟨hl, fun j vs t u hj hu => ?_⟩ ⟨Nat.le_refl _, hn, fun h => by cases h⟩, hs', htr⟩
  have htl : t < size := by rw [← hl vs (List.mem_of_getElem? hj)]; exact nth?_lt hu
  have hf := flatten_at hl hj htl
  rw [hu] at hf
  refine ⟨w.heap.size, 0, rfl, .inr ⟨rfl, ?_⟩, ?_⟩
  · rw [Nat.zero_add]; exact nth?_lt hf
  · rw [Nat.zero_add]; exact hc _ _ (by simpa using hf)

theorem close1_rep {a a' : AV} {v : Value} (h : Rep S w hp φ a v) (hc : close1 hp a = some a') : Rep S w [] [] a' v := by
  cases a <;> simp only [close1] at hc <;> first | (cases hc; done) | skip
  case bool b => cases hc; have := h.bool_inv; subst this; exact .bool _ _ _
  case int k n => cases hc; obtain ⟨rfl, h1⟩ := h.int_inv; exact .int _ _ _ _ h1
  case str s => cases hc; obtain ⟨rfl, h1⟩ := h.str_inv; exact .str _ _ _ h1
  case nilp => cases hc; cases h; exact .nilp _ _
  case rptr el off => cases hc; obtain ⟨vs, b, ob, h1, h2, h3, rfl⟩ := h.rptr_inv; exact .rptr _ _ _ _ _ _ _ h1 h2 h3
  case nils => cases hc; have := h.nils_inv; subst this; exact .nils _ _
  case sl size els => cases hc; obtain ⟨vss, a, cap, h1, h2, h3, rfl⟩ := h.sl_inv; exact .sl _ _ _ _ _ _ _ h1 h2 h3
  case row id n =>
    obtain ⟨et, size, els, h1, h2, h3, h4⟩ := h.row_inv
    rw [h1] at hc; cases hc
    exact h3
  case func f x y =>
    cases x <;> cases y <;> simp only [close1] at hc <;> first | (cases hc; done) | skip
    cases hc
    obtain ⟨a, b, h1, h2, rfl⟩ := h.func_inv
    cases h1; cases h2
    exact .func _ _ _ _ _ _ _ (.nil _ _) (.nil _ _)
  case nilf => cases hc; cases h; exact .nilf _ _
theorem closeL_rep {l l' : List AV} {vs : List Value} (h : Reps S w hp φ l vs) (hc : closeL hp l = some l') : Reps S w [] [] l' vs := by
  induction l generalizing l' vs with
  | nil => simp only [closeL, Option.some.injEq] at hc; subst hc; cases h; exact .nil _ _
  | cons a l ih =>
    cases h with
    | cons _ _ _ v _ vs h t =>
    simp only [closeL] at hc
    cases h1 : close1 hp a with
    | none => rw [h1] at hc; cases hc
    | some a' =>
      cases h2 : closeL hp l with
      | none => rw [h1, h2] at hc; cases hc
      | some l2 => rw [h1, h2] at hc; cases hc; exact .cons _ _ _ _ _ _ (close1_rep h h1) (ih t h2)
theorem close_rep {a a' : AV} {v : Value} (h : Rep S w hp φ a v) (hc : close hp a = some a') : Rep S w [] [] a' v := by
  by_cases ha : ∃ cs, a = .agg cs
  · obtain ⟨cs, rfl⟩ := ha
    obtain ⟨vs, h1, h2, rfl⟩ := h.agg_inv
    simp only [close] at hc
    cases h3 : closeL hp cs with
    | none => rw [h3] at hc; cases hc
    | some cs' => rw [h3] at hc; cases hc; exact .agg _ _ _ _ (closeL_rep h1 h3) h2
  · have : close hp a = close1 hp a := by cases a <;> first | rfl | exact absurd ⟨_, rfl⟩ ha
    rw [this] at hc
    exact close1_rep h hc
theorem closeArgs_rep {l l' : List AV} {vs : List Value} (h : Reps S w hp φ l vs) (hc : closeArgs hp l = some l') : Reps S w [] [] l' vs := by
  induction l generalizing l' vs with
  | nil => simp only [closeArgs, Option.some.injEq] at hc; subst hc; cases h; exact .nil _ _
  | cons a l ih =>
    cases h with
    | cons _ _ _ v _ vs h t =>
    simp only [closeArgs] at hc
    cases h1 : close hp a with
    | none => rw [h1] at hc; cases hc
    | some a' =>
      cases h2 : closeArgs hp l with
      | none => rw [h1, h2] at hc; cases hc
      | some l2 => rw [h1, h2] at hc; cases hc; exact .cons _ _ _ _ _ _ (close_rep h h1) (ih t h2)

/-! ### Calls that leave their objects -/
theorem shift_at {hp hpn : Hp} (id : Nat) : nth? (hp ++ hpn.map (shiftOb hp.length)) (hp.length + id) = (nth? hpn id).map (shiftOb hp.length) := by
  rw [nth?_eq, nth?_eq, List.getElem?_append_right (by omega), show hp.length + id - hp.length = id by omega, List.getElem?_map]
theorem shift_pl {φ φn : List Pl} {n : Nat} (h : φ.length = n) (id : Nat) : (φ ++ φn)[n + id]? = φn[id]? := by
  rw [List.getElem?_append_right (by omega), show n + id - φ.length = id by omega]
theorem shifts_rep {hpn : Hp} {φn : List Pl} {g : AV → AV} (hg : ∀ a v, Rep S w hpn φn a v → Rep S w (hp ++ hpn.map (shiftOb hp.length)) (φ ++ φn) (g a) v) {l : List AV} {vs : List Value} (h : Reps S w hpn φn l vs) : Reps S w (hp ++ hpn.map (shiftOb hp.length)) (φ ++ φn) (l.map g) vs := by
  induction l generalizing vs with
  | nil => cases h; exact .nil _ _
  | cons a l ih => cases h with | cons _ _ _ v _ vs h t => exact .cons _ _ _ _ _ _ (hg a v h) (ih t)
section shift
variable {hpn : Hp} {φn : List Pl} (hl : φ.length = hp.length)
include hl
theorem shift1_rep {a : AV} {v : Value} (h : Rep S w hpn φn a v) : Rep S w (hp ++ hpn.map (shiftOb hp.length)) (φ ++ φn) (shift1 hp.length a) v := by
  cases a <;> simp only [shift1] <;> first | exact .junk _ _ _ | skip
  case bool => cases h; exact .bool _ _ _
  case int => cases h; exact .int _ _ _ _ (by assumption)
  case str => cases h; exact .str _ _ _ (by assumption)
  case nilp => cases h; exact .nilp _ _
  case ptr id off =>
    obtain ⟨b, hb, rfl⟩ := h.ptr_inv
    exact .ptr _ _ _ off b ((shift_pl hl id).trans hb)
  case pte id i off =>
    obtain ⟨b, size, els, hb, hob, rfl⟩ := h.pte_inv
    exact .pte _ _ _ i off b size els ((shift_pl hl id).trans hb) (by rw [shift_at, hob]; rfl)
  case rptr el off => obtain ⟨vs, b, ob, h1, h2, h3, rfl⟩ := h.rptr_inv; exact .rptr _ _ _ _ _ _ _ h1 h2 h3
  case nils => have := h.nils_inv; subst this; exact .nils _ _
  case sl size els => obtain ⟨vss, a, cap, h1, h2, h3, rfl⟩ := h.sl_inv; exact .sl _ _ _ _ _ _ _ h1 h2 h3
  case row id n =>
    obtain ⟨et, size, els, h1, h2, h3, h4⟩ := h.row_inv
    exact .row _ _ _ n v et size els (by rw [shift_at, h1]; rfl) h2 h3 fun hn => (shift_pl hl id).trans (h4 hn)
  case own id off n =>
    obtain ⟨b, size, els, cap, ad, hb, hob, hle, had, hc, rfl⟩ := h.own_inv
    exact .own _ _ _ off n b size els cap ((shift_pl hl id).trans hb) (by rw [shift_at, hob]; rfl) hle ad had hc
  case func f x y =>
    cases x <;> cases y <;> simp only [shift1] <;> first | exact .junk _ _ _ | skip
    obtain ⟨a, b, h1, h2, rfl⟩ := h.func_inv
    cases h1; cases h2
    exact .func _ _ _ _ _ _ _ (.nil _ _) (.nil _ _)
  case nilf => cases h; exact .nilf _ _
theorem shift2_rep {a : AV} {v : Value} (h : Rep S w hpn φn a v) : Rep S w (hp ++ hpn.map (shiftOb hp.length)) (φ ++ φn) (shift2 hp.length a) v := by
  cases a <;> simp only [shift2] <;> first | exact shift1_rep hl h | skip
  case agg cs =>
    obtain ⟨vs, h1, h2, rfl⟩ := h.agg_inv
    exact .agg _ _ _ _ (shifts_rep (fun a v h => shift1_rep hl h) h1) h2
  case func f x y =>
    obtain ⟨a, b, h1, h2, rfl⟩ := h.func_inv
    exact .func _ _ _ _ _ _ _ (shifts_rep (fun a v h => shift1_rep hl h) h1) (shifts_rep (fun a v h => shift1_rep hl h) h2)
theorem shiftV_rep {a : AV} {v : Value} (h : Rep S w hpn φn a v) : Rep S w (hp ++ hpn.map (shiftOb hp.length)) (φ ++ φn) (shiftV hp.length a) v := by
  cases a <;> simp only [shiftV] <;> first | exact shift2_rep hl h | skip
  case tup cs =>
    obtain ⟨vs, h1, rfl⟩ := h.tup_inv
    exact .tup _ _ _ _ (shifts_rep (fun a v h => shift2_rep hl h) h1)
end shift
theorem Sim.adopt {S' : Nat → Nat → Prop} {w' : World} {hpn : Hp} {φn : List Pl} {v : AV} {u : Value} (hs : Sim P base S w hp φ) (h1 : Rep S' w' hpn φn v u) (h2 : Sim P w.heap.size S' w' hpn φn) (h3 : Trans w.heap.size S w [] [] S' w' hpn φn) :
    Rep S' w' (hp ++ hpn.map (shiftOb hp.length)) (φ ++ φn) (shiftV hp.length v) u ∧ Sim P base S' w' (hp ++ hpn.map (shiftOb hp.length)) (φ ++ φn) ∧ Trans base S w hp φ S' w' (hp ++ hpn.map (shiftOb hp.length)) (φ ++ φn) := by
  have hE : HpExt hp φ (hp ++ hpn.map (shiftOb hp.length)) (φ ++ φn) := by
    refine ⟨fun id b h => ?_, fun id size els h => ⟨els, ?_, rfl⟩, fun id e size els h => ⟨[], ?_, fun _ v hv => ?_⟩⟩
    · rw [List.getElem?_append_left (nth?_lt h)]; exact h
    · rw [nth?_eq] at h ⊢; rw [List.getElem?_append_left (nth?_lt h)]; exact h
    · rw [nth?_eq] at h ⊢; rw [List.getElem?_append_left (nth?_lt h), List.append_nil]; exact h
    · rw [List.getElem?_append_left (nth?_lt hv)]; exact hv
  have hold : ∀ id b, blockAt φ id = some b → w'.heap[b]? = w.heap[b]? ∧ ∀ o, S' b o ↔ S b o := fun id b hb => by
    have hlt := (hs.block_lt hb).2
    exact ⟨h3.below.block b hlt, fun o => ⟨fun h => (h3.new b o h).elim (fun h => h) fun h => by omega, fun h => (h3.s b o h).1⟩⟩
  have hat : ∀ i b, blockAt (φ ++ φn) i = some b → (i < φ.length ∧ blockAt φ i = some b) ∨ (φ.length ≤ i ∧ blockAt φn (i - φ.length) = some b) := by
    intro i b h
    unfold blockAt at h ⊢
    rcases Nat.lt_or_ge i φ.length with hi | hi
    · rw [List.getElem?_append_left hi] at h; exact .inl ⟨hi, h⟩
    · rw [List.getElem?_append_right hi] at h; exact .inr ⟨hi, h⟩
  refine ⟨shiftV_rep hs.len h1, ⟨by simp [hs.len, h2.len], Nat.le_trans hs.low h3.below.size, h2.cell, fun id o ho => ?_, fun i j b hi hj => ?_⟩, ⟨h3.s, hE, h3.below.mono hs.low, fun b o h => (h3.new b o h).elim .inl fun h => .inr (Nat.le_trans hs.low h)⟩⟩
  · rcases Nat.lt_or_ge id hp.length with hi | hi
    · rw [List.getElem?_append_left hi] at ho
      exact (hs.obj id o ho).keep h3.s hE (List.getElem?_append_left (by rw [hs.len]; exact hi)) (hold id)
    · rw [List.getElem?_append_right hi, List.getElem?_map] at ho
      cases hob : hpn[id - hp.length]? with
      | none => rw [hob] at ho; cases ho
      | some ob =>
        rw [hob] at ho
        simp only [Option.map_some, Option.some.injEq] at ho
        subst ho
        have hok := h2.obj _ _ hob
        have hφ : (φ ++ φn)[id]? = φn[id - hp.length]? := by rw [List.getElem?_append_right (by rw [hs.len]; exact hi), hs.len]
        cases ob with
        | var t cs =>
          obtain ⟨b, vs, E, g1, g2, g3, g4, g5, g6⟩ := hok
          exact ⟨b, vs, E, hφ.trans g1, Nat.le_trans hs.low g2, g3, shifts_rep (fun a v h => shift2_rep hs.len h) g4, g5, g6⟩
        | arr size els =>
          obtain ⟨b, vss, ex, E, g1, g2, g3, g4, g5, g6⟩ := hok
          exact ⟨b, vss, ex, E, hφ.trans g1, Nat.le_trans hs.low g2, g3, g4, g5, g6⟩
        | row e size els =>
          obtain ⟨v, vss, g1, g2, g3, g4, g5, g6, g7⟩ := hok
          exact ⟨v, vss, hφ.trans g1, owns_low g2 hs.low, g3, g4, g5, g6, g7⟩
  · rcases hat i b hi with ⟨i1, i2⟩ | ⟨i1, i2⟩ <;> rcases hat j b hj with ⟨j1, j2⟩ | ⟨j1, j2⟩
    · exact hs.apart i j b i2 j2
    · have := (hs.block_lt i2).2
      have := (h2.block_lt j2).1; omega
    · have := (hs.block_lt j2).2
      have := (h2.block_lt i2).1; omega
    · have := h2.apart _ _ b i2 j2; omega

/-! ### Calls that see arrays -/
/-- The cells of the arrays too. -/
def withArr (S : Nat → Nat → Prop) (w : World) (hp : Hp) (φ : List Pl) : Nat → Nat → Prop := fun b o => S b o ∨ ∃ id size els, nth? hp id = some (.arr size els) ∧ φ[id]? = some (.blk b) ∧ ∃ u, w.cell? ⟨b, o, none⟩ = some u
theorem withArr_ext : SExt S w (withArr S w hp φ) w := fun b o h => ⟨.inl h, rfl⟩
theorem closeO1_rep (hs : Sim P base S w hp φ) {a a' : AV} {v : Value} (h : Rep S w hp φ a v) (hc : closeO1 hp a = some a') : Rep (withArr S w hp φ) w [] [] a' v := by
  by_cases ha : ∃ id off n, a = .own id off n
  · obtain ⟨id, off, n, rfl⟩ := ha
    obtain ⟨b, size, els, cap, ad, hb, hob, hle, had, hcp, rfl⟩ := h.own_inv
    simp only [closeO1, hob, Option.some.injEq] at hc
    subst hc
    obtain ⟨b', vss, ex, E', g1, g2, g3, g4, g5, g6⟩ := hs.obj id _ (by rw [← nth?_eq]; exact hob)
    rw [hb] at g1; cases g1
    have hlen : ((els.drop off).take n).length = n := by rw [List.length_take, List.length_drop]; omega
    have := Rep.sl (S := withArr S w hp φ) (w := w) [] [] size ((els.drop off).take n) ((vss.drop off).take n) ad cap (Repss.mono withArr_ext ((g4.drop off).take n)) ⟨fun vs hv => g5 vs (List.mem_of_mem_drop (List.mem_of_mem_take hv)), fun j vs t u hj hu => ?_⟩ (by rw [hlen]; exact hcp)
    · rw [hlen] at this; exact this
    · rw [List.getElem?_take] at hj
      split at hj
      · rename_i hlt
        rw [List.getElem?_drop] at hj
        have htl : t < size := by rw [← g5 vs (List.mem_of_getElem? hj)]; exact nth?_lt hu
        have hf := flatten_at g5 hj htl
        rw [hu] at hf
        have hcell : w.cell? ⟨b, (off + j) * size + t, none⟩ = some u := by
          have hx := List.getElem?_append_left (l₂ := ex) (nth?_lt hf)
          rw [hf] at hx
          simp [World.cell?, g3]; simpa using hx
        have e1 : off * size + j * size + t = (off + j) * size + t := by rw [Nat.add_mul]
        exact ⟨b, off * size, had (by omega), .inr ⟨id, size, els, hob, hb, u, by rw [e1]; exact hcell⟩, by rw [e1]; exact hcell⟩
      · cases hj
  · have : closeO1 hp a = close1 hp a := by cases a <;> first | rfl | exact absurd ⟨_, _, _, rfl⟩ ha
    rw [this] at hc
    exact Rep.mono withArr_ext (close1_rep h hc) HpExt.nil
theorem closeOL_rep (hs : Sim P base S w hp φ) {l l' : List AV} {vs : List Value} (h : Reps S w hp φ l vs) (hc : closeOL hp l = some l') : Reps (withArr S w hp φ) w [] [] l' vs := by
  induction l generalizing l' vs with
  | nil => simp only [closeOL, Option.some.injEq] at hc; subst hc; cases h; exact .nil _ _
  | cons a l ih =>
    cases h with
    | cons _ _ _ v _ vs h t =>
    simp only [closeOL] at hc
    cases h1 : closeO1 hp a with
    | none => rw [h1] at hc; cases hc
    | some a' =>
      cases h2 : closeOL hp l with
      | none => rw [h1, h2] at hc; cases hc
      | some l2 => rw [h1, h2] at hc; cases hc; exact .cons _ _ _ _ _ _ (closeO1_rep hs h h1) (ih t h2)
theorem closeO_rep (hs : Sim P base S w hp φ) {a a' : AV} {v : Value} (h : Rep S w hp φ a v) (hc : closeO hp a = some a') : Rep (withArr S w hp φ) w [] [] a' v := by
  by_cases ha : ∃ cs, a = .agg cs
  · obtain ⟨cs, rfl⟩ := ha
    obtain ⟨vs, h1, h2, rfl⟩ := h.agg_inv
    simp only [closeO] at hc
    cases h3 : closeOL hp cs with
    | none => rw [h3] at hc; cases hc
    | some cs' => rw [h3] at hc; cases hc; exact .agg _ _ _ _ (closeOL_rep hs h1 h3) h2
  · have : closeO hp a = closeO1 hp a := by cases a <;> first | rfl | exact absurd ⟨_, rfl⟩ ha
    rw [this] at hc
    exact closeO1_rep hs h hc
theorem closeOArgs_rep (hs : Sim P base S w hp φ) {l l' : List AV} {vs : List Value} (h : Reps S w hp φ l vs) (hc : closeOArgs hp l = some l') : Reps (withArr S w hp φ) w [] [] l' vs := by
  induction l generalizing l' vs with
  | nil => simp only [closeOArgs, Option.some.injEq] at hc; subst hc; cases h; exact .nil _ _
  | cons a l ih =>
    cases h with
    | cons _ _ _ v _ vs h t =>
    simp only [closeOArgs] at hc
    cases h1 : closeO hp a with
    | none => rw [h1] at hc; cases hc
    | some a' =>
      cases h2 : closeOArgs hp l with
      | none => rw [h1, h2] at hc; cases hc
      | some l2 => rw [h1, h2] at hc; cases hc; exact .cons _ _ _ _ _ _ (closeO_rep hs h h1) (ih t h2)
theorem withArr_cell (hs : Sim P base S w hp φ) : ∀ b o, withArr S w hp φ b o → ∃ u, w.cell? ⟨b, o, none⟩ = some u := by
  rintro b o (h | ⟨_, _, _, _, _, h⟩)
  · exact hs.cell b o h
  · exact h
theorem flat1_rep {S' : Nat → Nat → Prop} {w' : World} {hp' : Hp} {φ' : List Pl} {a : AV} {v : Value} (hf : flat1 a = true) (h : Rep S w hp φ a v) : Rep S' w' hp' φ' a v := by
  cases a <;> first | (cases hf; done) | skip
  case bool => cases h; exact .bool _ _ _
  case int => cases h; exact .int _ _ _ _ (by assumption)
  case str => cases h; exact .str _ _ _ (by assumption)
theorem flat_rep {S' : Nat → Nat → Prop} {w' : World} {hp' : Hp} {φ' : List Pl} {a : AV} {v : Value} (hf : flat a = true) (h : Rep S w hp φ a v) : Rep S' w' hp' φ' a v := by
  by_cases ha : ∃ cs, a = .tup cs
  · obtain ⟨cs, rfl⟩ := ha
    obtain ⟨vs, h1, rfl⟩ := h.tup_inv
    simp only [flat] at hf
    refine .tup _ _ _ _ ?_
    clear h
    induction cs generalizing vs with
    | nil => cases h1; exact .nil _ _
    | cons a l ih =>
      simp only [List.all_cons, Bool.and_eq_true] at hf
      cases h1 with | cons _ _ _ v _ vs h t => exact .cons _ _ _ _ _ _ (flat1_rep hf.1 h) (ih hf.2 vs t)
  · have : flat a = flat1 a := by cases a <;> first | rfl | exact absurd ⟨_, rfl⟩ ha
    rw [this] at hf
    exact flat1_rep hf h

theorem norm1_rep {t : TypeId} {a : AV} {v : Value} (h : Rep S w hp φ a v) : Rep S w hp φ (norm1 P t a) v := by
  cases a <;> simp only [norm1] <;> first | exact h | skip
  cases elemOf P t with
  | none => exact h
  | some e =>
    have := h.nils_inv
    subst this
    exact .sl _ _ _ [] [] none 0 .nil ⟨by simp, fun j vs t u hj => by simp at hj⟩ ⟨Nat.le_refl _, by unfold maxLen; omega, fun _ => rfl⟩
theorem norms_rep {ts : List TypeId} {l : List AV} {vs : List Value} (h : Reps S w hp φ l vs) : Reps S w hp φ (norms P ts l) vs := by
  induction ts generalizing l vs with
  | nil => cases l <;> exact h
  | cons t ts ih => cases l with
    | nil => exact h
    | cons a l => cases h with | cons _ _ _ v _ vs h t' => exact .cons _ _ _ _ _ _ (norm1_rep h) (ih t')

/-- The elements of a slice literal. -/
theorem elems_rep (ht : ∀ x, Rep S w hp φ (ev tm x) (e x)) {size : Nat} {tys : List TypeId} : ∀ (ps : List (Nat × Operand)) (k : Nat) (els : List (List AV)) (cells : List Value), elems P tys hp size tm k ps = some els → (k + ps.length) * size ≤ cells.length →
    ∃ vss, Repss S w els vss ∧ (∀ vs ∈ vss, vs.length = size) ∧ vss.length = ps.length ∧ Instr.fill (fun i => some (i * size, size)) cells.toArray (ps.map fun x => (x.1, e x.2)) = some (cells.take (k * size) ++ vss.flatten ++ cells.drop ((k + ps.length) * size)).toArray
  | [], k, els, cells, h, hl => by
    simp only [elems, Option.some.injEq] at h
    subst h
    exact ⟨[], .nil, by simp, rfl, by simp [Instr.fill]⟩
  | (i, x) :: rest, k, els, cells, h, hl => by
    simp only [elems] at h
    split at h
    · rename_i hc
      simp only [Bool.and_eq_true, decide_eq_true_eq] at hc
      obtain ⟨⟨rfl, hsz⟩, hone⟩ := hc
      cases hcl : closeL hp (norms P tys (ev tm x).cells) with
      | none => rw [hcl] at h; cases h
      | some c =>
        rw [hcl] at h
        simp only at h
        cases hrest : elems P tys hp size tm (i + 1) rest with
        | none => rw [hrest] at h; cases h
        | some l =>
          rw [hrest] at h
          cases h
          have hx := ht x
          have hcr := hx.cells_rep hone
          have hlen := hcr.length
          have hs2 : (e x).cells.size = size := by rw [← hsz, hlen]; simp
          have hmul : (i + (rest.length + 1)) * size = i * size + size + rest.length * size := by rw [Nat.add_mul, Nat.add_mul]; omega
          simp only [List.length_cons] at hl
          rw [hmul] at hl
          have hfold := fold_cells (i * size) (e x).cells cells.toArray (by rw [hs2]; simp; omega)
          have hb : (decide ((e x).cells.size ≠ size) || decide (i * size + (e x).cells.size > cells.toArray.size)) = false := by
            simp only [List.size_toArray, Bool.or_eq_false_iff, decide_eq_false_iff_not]; omega
          have hl1 : (cells.take (i * size)).length = i * size := by rw [List.length_take]; omega
          have hl2 : (e x).cells.toList.length = size := by simpa using hs2
          obtain ⟨vss, g1, g2, g3, g4⟩ := elems_rep ht rest (i + 1) l (cells.take (i * size) ++ (e x).cells.toList ++ cells.drop (i * size + size)) hrest (by
            rw [List.length_append, List.length_append, hl1, hl2, List.length_drop, Nat.add_mul, Nat.add_mul]; omega)
          refine ⟨(e x).cells.toList :: vss, .cons _ _ _ _ (closeL_rep (norms_rep hcr) hcl) (hx.cells_ones hone) g1, by simpa [hs2] using g2, by simp [g3], ?_⟩
          simp only [List.map_cons, Instr.fill, hb, Bool.false_eq_true, if_false, hfold]
          rw [hs2]
          refine g4.trans ?_
          congr 2
          have e1 : (i + 1) * size = i * size + size := by rw [Nat.add_mul]; omega
          rw [e1, List.take_append_of_le_length (by rw [List.length_append, hl1, hl2]; omega), List.take_of_length_le (l := cells.take (i * size) ++ (e x).cells.toList) (by rw [List.length_append, hl1, hl2]; omega)]
          rw [List.drop_append, List.drop_of_length_le (l := cells.take (i * size) ++ (e x).cells.toList) (by rw [List.length_append, hl1, hl2, Nat.add_mul]; omega)]
          rw [List.length_append, hl1, hl2, List.drop_drop]
          simp only [List.flatten_cons, List.nil_append, List.append_assoc, List.length_cons]
          rw [show i * size + size + ((i + 1 + rest.length) * size - (i * size + size)) = (i + (rest.length + 1)) * size by rw [hmul, Nat.add_mul, Nat.add_mul]; omega]
    · cases h
end
end Go.Proofs.Ytaocgmkcjemecaa
