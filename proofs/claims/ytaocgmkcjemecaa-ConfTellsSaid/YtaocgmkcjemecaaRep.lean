/- Parts of the proofs of the laws of layer 1, scan (text Rep). Conditions: none. -/
import Derived.WalkKit
import Derived.WalkSpells
import Derived.WalkLawsBesides
import Derived.Lib.Hide
import Derived.Deep.QuietTactic
import Derived.BigQuiet
import Derived.WalkSmall
import Derived.Laws.AppendOwnNone
import Derived.Deep.RegionWith
import Derived.Deep.RegionLaw
import Derived.Deep.CutRange
import Derived.Deep.DeepCutAuto
import Derived.Deep.LoopGhost
/- How data lie in memory: a slice's cells. -/
namespace Go.Proofs.Ytaocgmkcjemecaa
open Go.RowKit
set_option linter.unusedVariables false
set_option linter.unusedSimpArgs false

/-- A text's bytes as the value's. -/
abbrev bs (l : List UInt8) : ByteArray := ⟨l.toArray⟩

/-- The slice value v has n elements of 'size' cells each, and its cells read as xs. -/
def Arr (w : World) (size : Nat) (v : Value) (n : Nat) (xs : List Value) : Prop :=
  xs.length = n * size ∧ ∃ a cap, v = .slice a n cap ∧ (n ≤ cap ∧ cap ≤ maxLen ∧ (a = none → cap = 0)) ∧ ∀ j u, xs[j]? = some u → ∃ b off, a = some ⟨b, off, none⟩ ∧ w.cell? ⟨b, off + j, none⟩ = some u

theorem Arr.mono {w w' : World} {size n : Nat} {v : Value} {xs : List Value} (h : Arr w size v n xs) (hb : Below w.heap.size w w') : Arr w' size v n xs := by
  obtain ⟨h1, a, cap, hv, hp, hc⟩ := h
  exact ⟨h1, a, cap, hv, hp, fun j u hj => let ⟨b, off, e, h⟩ := hc j u hj; ⟨b, off, e, cell_later hb h⟩⟩

theorem Arr.nil (w : World) (size : Nat) : Arr w size (.slice none 0 0) 0 [] := ⟨by simp, none, 0, rfl, by simp, fun j u h => by simp at h⟩

/-- What a call owns reads as what it owns. -/
theorem Arr.of_owns {w : World} {base : Nat} {e : TypeId} {size : Nat} {v : Value} {n : Nat} {xs : List Value} (h : w.ownsRow base e size v n xs) : Arr w size v n xs := by
  refine ⟨h.1, ?_⟩
  have h1 := h.1
  rcases h.2 with ⟨hv, hn⟩ | ⟨g, cap, cur, hv, hg, hh, r1, r2, r⟩
  · subst hn
    exact ⟨none, 0, hv, by simp, fun j u hj => by have := (List.getElem?_eq_some_iff.1 hj).1; omega⟩
  · refine ⟨_, cap, hv, ⟨r1, r2, by simp⟩, fun j u hj => ⟨g, 0, rfl, ?_⟩⟩
    have := h.cells (g := g) (by rw [hv]; rfl) j u hj
    have hadd : (⟨g, 0, none⟩ : Addr).add j = ⟨g, 0 + j, none⟩ := by unfold Addr.add; split <;> simp_all
    rw [hadd] at this
    exact this

/-- A row of structs, flat. -/
theorem flat_length {α : Type} (cells : α → List Value) (k : Nat) (hk : ∀ x, (cells x).length = k) (l : List α) : (l.flatMap cells).length = l.length * k := by
  induction l with
  | nil => simp
  | cons a t ih => simp only [List.flatMap_cons, List.length_append, List.length_cons, ih, hk, Nat.succ_mul]; omega
theorem flat_at {α : Type} (cells : α → List Value) (k : Nat) (hk : ∀ x, (cells x).length = k) (l : List α) (i : Nat) (hi : i < l.length) (j : Nat) (hj : j < k) : (l.flatMap cells)[i * k + j]? = (cells l[i])[j]? := by
  induction l generalizing i with
  | nil => simp at hi
  | cons a t ih =>
    simp only [List.flatMap_cons]
    cases i with
    | zero => rw [Nat.zero_mul, Nat.zero_add, List.getElem?_append_left (by rw [hk]; exact hj)]; rfl
    | succ i =>
      rw [List.getElem?_append_right (by rw [hk, Nat.succ_mul]; omega), hk, show (i + 1) * k + j - k = i * k + j by rw [Nat.succ_mul]; omega]
      simpa using ih i (by simpa using hi)

/-- 'append(s, x...)': s is owned, x is a row of whatever make: the walk's one way. -/
theorem wpList_append_arr {P : Program} {w : World} {ops : Array Oper} {rest : List Oper} {o : Oper} {a : Act} {Q : Exit → Act → World → Prop} (hgd : o.guard = none) (s x : Operand) (t : TypeId)
    (ho : o.op = .call { callee := .builtin .append, args := #[s, x], argTypes := #[t, t] })
    (base : Nat) (e : TypeId) (i : TypeInfo) (z : Value) (size bytes : Nat) (ht : P.underlying t = some (.slice e)) (hi : P.info? e = some i) (hz : i.zero = some z)
    (hsize : i.size = size) (hby : i.bytes = bytes) (hzs : z.cells.size = size) (hsz : 0 < size)
    (v : Value) (n : Nat) (xs : List Value) (hs : a.eval s = v) (hown : w.ownsRow base e size v n xs)
    (v2 : Value) (m : Nat) (news : List Value) (hx : a.eval x = v2) (harr : Arr w size v2 m news) (h1 : ∀ u ∈ news, u.oneCell' = true)
    (h63 : n + m ≤ maxLen) (hbytes : (n + m) * bytes ≤ 140737488355328) (hbase : base ≤ w.heap.size)
    (h : ∀ v' w', w'.ownsRow base e size v' (n + m) (xs ++ news) → w.grownBy w' v.ownBlock → wpList P ops Q rest (a.put o.dst v') w') : wpList P ops Q (o :: rest) a w := by
  obtain ⟨hl, ad, cap, rfl, ⟨h2, _, h3⟩, hc⟩ := harr
  cases ad with
  | none =>
    have := h3 rfl
    subst this
    have hm : m = 0 := by omega
    subst hm
    have hn : news = [] := List.eq_nil_of_length_eq_zero (by rw [hl]; simp)
    subst hn
    refine wpList_append_own_none hgd s x t ho base e i size ht hi v n xs hs hown hx ?_
    have := h v w (by simpa using hown) ⟨rfl, rfl, rfl, Nat.le_refl _, fun _ _ _ => rfl⟩
    exact this
  | some ad =>
    refine wpList_append_own w hgd s x t ho base e i z size bytes ht hi hz hsize hby hzs hsz v n xs hs hown ad m cap news hx hl ?_ h1 h63 hbytes hbase fun v' w' g1 g2 _ => h v' w' g1 g2
    intro j u hj
    obtain ⟨b, off, e, hcell⟩ := hc j u hj
    cases e
    have hadd : (⟨b, off, none⟩ : Addr).add j = ⟨b, off + j, none⟩ := by unfold Addr.add; split <;> simp_all
    rw [hadd]
    exact hcell

/-- An operation whose run the kernel reckons. -/
theorem wpList_run {P : Program} {ops : Array Oper} {Q : Exit → Act → World → Prop} {rest : List Oper} {o : Oper} {a : Act} {w : World} (hg : o.guard = none) (v : Value) (hr : (execOp a.eval o).run P w = .ok (.value v) w) (h : wpList P ops Q rest (a.put o.dst v) w) : wpList P ops Q (o :: rest) a w :=
  wpList_plain hg fun _ hK => by
    unfold Oper.wp
    rw [hr]
    exact hK _ _ h

theorem setRow_new (W : World) (zs cs : Array Value) (E : TypeId) : (W.alloc (.cells zs E)).setRow W.heap.size cs = W.alloc (.cells cs E) := by
  simp only [World.setRow, World.alloc]
  congr 1
  apply Array.ext
  · simp
  · intro i h1 h2
    simp only [Array.getElem_modify, Array.getElem_push]
    split
    · rename_i h; subst h; simp
    · rename_i h
      simp at h2
      rw [dif_pos (by omega), dif_pos (by omega)]

/-- A whole struct or array stored into the variable that was laid last. -/
theorem wpList_store_new {P : Program} {ops : Array Oper} {Q : Exit → Act → World → Prop} {rest : List Oper} {o : Oper} {a : Act} {W : World} {zs : Array Value} {E : TypeId} (hgd : o.guard = none) (ty : TypeId) (x y : Operand) (ho : o.op = .store ty x y)
    (cells : Array Value) (g : Nat) (hgs : g = W.heap.size) (hx : a.eval x = .pointer (some ⟨g, 0, none⟩)) (hy : a.eval y = .agg cells) (hi : (P.info? ty).map (·.size) = some cells.size)
    (hold : zs.size = cells.size) (h1 : cells.all (·.oneCell') = true)
    (h : wpList P ops Q rest (a.put o.dst undef) (W.alloc (.cells cells E))) : wpList P ops Q (o :: rest) a (W.alloc (.cells zs E)) := by
  subst hgs
  exact wpList_plain hgd fun _ hK => wp_store_row ty x y ho W.heap.size cells hx hy E zs (heap_alloc_new W _) hi hold h1 (by rw [setRow_new]; exact hK _ _ h)

/-- What is owned stays owned where nothing below has turned. -/
theorem owns_below {w w' : World} {base : Nat} {e : TypeId} {size : Nat} {v : Value} {n : Nat} {xs : List Value} (h : w.ownsRow base e size v n xs) (hb : Below w.heap.size w w') : w'.ownsRow base e size v n xs := by
  refine ⟨h.1, ?_⟩
  rcases h.2 with hn | ⟨g, cap, cur, rfl, hbg, hgg, rest⟩
  · exact .inl hn
  · exact .inr ⟨g, cap, cur, rfl, hbg, by rw [hb.block g (Array.getElem?_eq_some_iff.1 hgg).1]; exact hgg, rest⟩

theorem bcell {W w1 : World} (hb : Below W.heap.size W w1) : (∀ b o, b < W.heap.size → w1.cell? ⟨b, o, none⟩ = W.cell? ⟨b, o, none⟩) ∧ (∀ b o, b < W.heap.size → w1.frozen? ⟨b, o, none⟩ = W.frozen? ⟨b, o, none⟩) :=
  ⟨fun b o h => hb.cell (p := ⟨b, o, none⟩) h, fun b o h => hb.frozen (p := ⟨b, o, none⟩) h⟩

/-- A world after some draws. -/
def Still (w w' : World) : Prop := ∃ n, w' = w.drewN n
theorem Still.refl (w : World) : Still w w := ⟨0, rfl⟩
theorem Still.below {w w' : World} (h : Still w w') (B : Nat) : Below B w w' := by obtain ⟨n, rfl⟩ := h; exact below_drewN (Below.refl _ _) n

end Go.Proofs.Ytaocgmkcjemecaa
