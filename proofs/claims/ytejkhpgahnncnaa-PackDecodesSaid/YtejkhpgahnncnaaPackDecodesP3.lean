/- Parts of the proofs: what they lean on. Conditions: none. -/
import Derived.OrdersHeld
import Derived.StillTail
import Derived.Test.YtejkhpgahnncnaaPackDecodesP2
section
namespace Go.Proofs.Ytejkhpgahnncnaa
open Go.RowKit
set_option linter.unusedVariables false
set_option linter.unusedSimpArgs false

section
variable {P : Program} {ops : Array Oper} {md : Region.Mode} {S : World → Prop}

abbrev Qn : Exit → Act → World → Prop := fun _ _ _ => False
theorem upon_Q {o : Oper} {a : Act} {w : World} {K : Act → World → Prop} {Q : Exit → Act → World → Prop} (h : o.wp P a w K Qn) : o.wp P a w K Q := by
  unfold Oper.wp at *
  generalize (execOp a.eval o).run P w = r at *
  cases r with
  | ok n w' =>
    cases n <;> simp only [Oper.upon] at h ⊢
    case value u => exact h
    case skip => exact h
    case defer d => exact h
    case enter f args =>
      refine Calls.mono h fun e w'' he => ?_
      cases e with
      | returned u => exact he
      | panicked c => exact he.elim
      | outgrown => obtain ⟨_, _, h⟩ := he; exact h.elim
    case row row args => exact h
  | halt x w' =>
    cases x <;> simp only [Oper.upon] at h ⊢
    all_goals exact h.elim
theorem wpOp_Q {i : Nat} {a : Act} {w : World} {K : Act → World → Prop} {Q : Exit → Act → World → Prop} (h : wpOp P ops Qn i K a w) : wpOp P ops Q i K a w := by
  unfold wpOp at *
  split
  · rename_i ho; simp only [ho] at h; exact h
  · rename_i o ho
    simp only [ho] at h
    split
    · rename_i hw
      simp only [hw, if_true] at h
      rcases h with h | ⟨_, _, _, h⟩
      · exact .inl (upon_Q h)
      · exact h.elim
    · rename_i hw
      simp only [hw] at h
      exact h
def hAny (P : Program) (md : Region.Mode) (ops : Array Oper) (S : World → Prop) (n : Nat) (L : Array Bool → Act → World → Prop) : Nat → Array Bool → Act → World → Prop
  | 0, listed, a, w => L listed a w
  | f + 1, listed, a, w =>
    Region.ready md ops listed ≠ [] ∧ ∀ i ∈ Region.ready md ops listed, i < n ∧ wpOp P ops Qn i (fun a' w' => S w' ∧ hAny P md ops S n L f (listed.setIfInBounds i true) a' w') a w
theorem wpAny_of_hhead {n g : Nat} {L : Array Bool → Act → World → Prop} {Q : Exit → Act → World → Prop} (hL : ∀ listed a w, L listed a w → wpAny P md ops Q g listed a w) :
    ∀ (f : Nat) (listed : Array Bool) (a : Act) (w : World), hAny P md ops S n L f listed a w → wpAny P md ops Q (f + g) listed a w
  | 0, listed, a, w, h => by rw [Nat.zero_add]; exact hL _ _ _ h
  | f + 1, listed, a, w, h => by
    rw [show f + 1 + g = (f + g) + 1 by omega]
    exact ⟨fun h0 => absurd h0 h.1, fun i hi => wpOp_mono (fun a' w' h' => wpAny_of_hhead hL f _ a' w' h'.2) (wpOp_Q (h.2 i hi).2)⟩
theorem hAny_first {n i : Nat} {oi : Oper} {v : Value} {L : Array Bool → Act → World → Prop} (hi : ops[i]? = some oi) (hsel : ∀ (j : Nat) (o : Oper) cs b, ops[j]? = some o → o.op ≠ .select cs b)
    (hs : Region.sinkB md ops n = true) (hc : Region.chainB md ops n = true) (hn : n < ops.size) (hin : i < n)
    (hdone : ∀ listed a w, L listed a w → ∀ j ∈ Region.ready md ops listed, n ≤ j) :
    ∀ (f : Nat) (listed : Array Bool) (a : Act) (w : World), HeadInv md ops n listed →
      (∀ j oj, ops[j]? = some oj → j ≠ i → listed.getD j true = false → (∀ e ∈ oj.after, Region.binds md e = true → e.on ≠ i) → oi.apart ops oj = true) →
      i ∈ Region.ready md ops listed → YieldsIf P ops S oi v a → S w →
      hAny P md ops S n L f (listed.setIfInBounds i true) (a.put oi.dst v) w → hAny P md ops S n L (f + 1) listed a w := by
  intro f
  induction f with
  | zero =>
    intro listed a w inv _ hr hy hS H
    have hun := (mem_ready.1 hr).1
    refine ⟨fun h => (by rw [h] at hr; cases hr), fun j hj => ?_⟩
    have hjn : j < n := by
      rcases Nat.lt_or_ge j n with h | h
      · exact h
      · exact absurd hj (tail_waits hs hc hn inv _ i rfl hin hun j h)
    refine ⟨hjn, ?_⟩
    by_cases hji : j = i
    · subst hji; exact hy.wpOp hi hS ⟨hS, H⟩
    · have := hdone _ _ _ H j (ready_mono hj hji)
      omega
  | succ f ih =>
    intro listed a w inv hfree hr hy hS H
    have hun := (mem_ready.1 hr).1
    refine ⟨fun h => (by rw [h] at hr; cases hr), fun j hj => ?_⟩
    have hjn : j < n := by
      rcases Nat.lt_or_ge j n with h | h
      · exact h
      · exact absurd hj (tail_waits hs hc hn inv _ i rfl hin hun j h)
    refine ⟨hjn, ?_⟩
    by_cases hji : j = i
    · subst hji; exact hy.wpOp hi hS ⟨hS, H⟩
    · have h1 := (H.2 j (ready_mono hj hji)).2
      obtain ⟨hjun, oj, hoj, hall⟩ := mem_ready.1 hj
      have hnot : ∀ e ∈ oj.after, Region.binds md e = true → e.on ≠ i := fun e he hb heq => by
        have h1 := hall e he hb
        rw [heq, getD_both hun] at h1
        cases h1
      have h2 := wpOp_putIf hoj (hfree j oj hoj hji hjun hnot) (fun cs b => hsel i oi cs b hi) (fun cs b => hsel j oj cs b hoj) (fun _ _ _ h => h) hy h1
      have hfree' : ∀ k ok, ops[k]? = some ok → k ≠ i → (listed.setIfInBounds j true).getD k true = false →
          (∀ e ∈ ok.after, Region.binds md e = true → e.on ≠ i) → oi.apart ops ok = true := fun k ok hk hki hun hno => by
        refine hfree k ok hk hki ?_ hno
        by_cases hjk : j = k
        · subst hjk; exact hjun
        · rw [getD_set_ne true hjk] at hun; exact hun
      refine wpOp_mono (fun a' w' h3 => ⟨h3.2.1, ih (listed.setIfInBounds j true) a' w' (inv.set hj hjn) hfree' (ready_mono hr (Ne.symm hji)) h3.1 h3.2.1 ?_⟩) h2
      rw [Array.setIfInBounds_comm _ _ hji]
      exact h3.2.2

/-- The walk, in an order that is handed in: true: taken first; false: the only one that may come up. -/
def wpHeld (P : Program) (ops : Array Oper) (S : World → Prop) (Q : Act → World → Prop) : List (Nat × Bool) → Act → World → Prop
  | [], a, w => Q a w
  | (k, true) :: l, a, w => match ops[k]? with
    | none => False
    | some o => ∃ v, YieldsIf P ops S o v a ∧ wpHeld P ops S Q l (a.put o.dst v) w
  | (k, false) :: l, a, w => match ops[k]? with
    | none => False
    | some o => Region.wanted o (yielded ops a.tmps) = true ∧ o.wp P a w (fun a' w' => S w' ∧ wpHeld P ops S Q l a' w') Qn
def ordH (md : Region.Mode) (ops : Array Oper) (g n : Nat) : List (Nat × Bool) → Array Bool → Bool
  | [], listed => Region.seqB md ops g n listed
  | (k, true) :: l, listed => (Region.ready md ops listed).contains k && decide (k < n) && Region.free md ops listed k && ordH md ops g n l (listed.setIfInBounds k true)
  | (k, false) :: l, listed => (Region.ready md ops listed == [k]) && decide (k < n) && ordH md ops g n l (listed.setIfInBounds k true)
theorem hAny_ord {n g : Nat} {Lq : Act → World → Prop} (hsel : Region.noSelect ops = true) (hs : Region.sinkB md ops n = true) (hc : Region.chainB md ops n = true) (hn : n < ops.size) :
    ∀ (l : List (Nat × Bool)) (listed : Array Bool) (a : Act) (w : World), S w → HeadInv md ops n listed → ordH md ops g n l listed = true → wpHeld P ops S Lq l a w →
    hAny P md ops S n (fun listed' a' w' => Region.seqB md ops g n listed' = true ∧ Lq a' w') l.length listed a w
  | [], listed, a, w, hS, inv, hB, h => ⟨hB, h⟩
  | (k, true) :: l, listed, a, w, hS, inv, hB, h => by
    simp only [ordH, Bool.and_eq_true, decide_eq_true_eq] at hB
    obtain ⟨⟨⟨hrd, hkn⟩, hf⟩, hB'⟩ := hB
    have hr' : k ∈ Region.ready md ops listed := by simpa using hrd
    unfold wpHeld at h
    cases h0 : ops[k]? with
    | none => rw [h0] at h; exact h.elim
    | some o =>
      rw [h0] at h
      obtain ⟨v, hy, hK⟩ := h
      exact hAny_first h0 (Region.noSelect_spec hsel) hs hc hn hkn (fun listed' a' w' hL => seqB_ready hL.1) l.length listed a w inv (Region.free_spec h0 hf) hr' hy hS
        (hAny_ord hsel hs hc hn l _ _ _ hS (inv.set hr' hkn) hB' hK)
  | (k, false) :: l, listed, a, w, hS, inv, hB, h => by
    simp only [ordH, Bool.and_eq_true, decide_eq_true_eq, beq_iff_eq] at hB
    obtain ⟨⟨hrd, hkn⟩, hB'⟩ := hB
    have hr' : k ∈ Region.ready md ops listed := by rw [hrd]; simp
    unfold wpHeld at h
    cases h0 : ops[k]? with
    | none => rw [h0] at h; exact h.elim
    | some o =>
      rw [h0] at h
      obtain ⟨hwt, hK⟩ := h
      refine ⟨by rw [hrd]; simp, fun j hj => ?_⟩
      rw [hrd] at hj
      obtain rfl : j = k := by simpa using hj
      refine ⟨hkn, ?_⟩
      unfold wpOp
      simp only [h0, hwt, if_true]
      exact .inl (Oper.wp_mono (fun a' w' h' => ⟨h'.1, hAny_ord hsel hs hc hn l _ _ _ h'.1 (inv.set hr' hkn) hB' h'.2⟩) hK)
theorem wp_region_heldT {id : Nat} {Q : Exit → Act → World → Prop} {a : Act} {w : World} {l : List Oper} (n : Nat) (ord : List (Nat × Bool)) (S : World → Prop) (hm : P.follows .mixedOrders = true)
    (hB : (Region.noSelect l.toArray && decide (n < l.toArray.size) && decide (ord.length = n) && Region.sinkB .any l.toArray n && Region.chainB .any l.toArray n && ordH .any l.toArray (l.toArray.size - n) n ord (Array.replicate l.toArray.size false)) = true)
    (hS : S w.drew) (h : ∀ wd : World, wd.heap = w.heap → Below w.heap.size w wd → wpHeld P l.toArray S (fun a' w' => wpList P l.toArray Q (l.drop n) a' w') ord a wd) : (Code.region id l.toArray true).wp P Q a w := by
  simp only [Bool.and_eq_true, decide_eq_true_eq] at hB
  obtain ⟨⟨⟨⟨⟨hsel, hn⟩, hol⟩, hs⟩, hc⟩, hlex⟩ := hB
  have hdl : (l.drop n).length = l.toArray.size - n := by simp
  have inv0 : HeadInv .any l.toArray n (Array.replicate l.toArray.size false) :=
    ⟨by simp, fun j oj _ hl => (by rw [getD_replicate_false] at hl; cases hl), fun t _ ht => getD_in (by simpa using ht) (getD_replicate_false _ _)⟩
  have H := hAny_ord (P := P) (md := .any) (g := l.toArray.size - n) hsel hs hc hn ord _ a w.drew hS inv0 hlex (h w.drew rfl (Below.refl _ _).drew)
  refine wp_region_any hm ?_
  have := wpAny_of_hhead (md := .any) (Q := Q) (g := l.toArray.size - n) (fun listed a' w' hL => by
    obtain ⟨hseq, hq⟩ := hL
    have := wpAny_of_seq (md := .any) (Q' := Q) (l.drop n) n listed a' w' (fun j => by simp [List.getElem?_drop]) (by rw [hdl]; exact hseq) hq
    rwa [hdl] at this) _ _ _ _ H
  rw [hol, show n + (l.toArray.size - n) = l.toArray.size by omega] at this
  exact this
theorem wpHeld_nil {Q : Act → World → Prop} {a : Act} {w : World} (h : Q a w) : wpHeld P ops S Q [] a w := h
theorem wpHeld_w {Q : Act → World → Prop} {k : Nat} {l : List (Nat × Bool)} {a : Act} {w : World} {o : Oper} (ho : ops[k]? = some o) (hw : Region.wanted o (yielded ops a.tmps) = true) (v : Value)
    (h1 : ∀ w', S w' → (execOp a.eval o).run P w' = .ok (.value v) w') (h : ∀ K : Act → Prop, (∀ a, wpHeld P ops S Q l a w → K a) → K (a.put o.dst v)) : wpHeld P ops S Q ((k, true) :: l) a w := by
  have := h _ (fun _ h => h)
  unfold wpHeld
  simp only [ho]
  exact ⟨v, .inl ⟨hw, h1⟩, this⟩
theorem wpHeld_s {Q : Act → World → Prop} {k : Nat} {l : List (Nat × Bool)} {a : Act} {w : World} {o : Oper} (ho : ops[k]? = some o) (hw : Region.wanted o (yielded ops a.tmps) = true)
    (h : ∀ K : Act → World → Prop, (∀ a w, S w → wpHeld P ops S Q l a w → K a w) → o.wp P a w K Qn) : wpHeld P ops S Q ((k, false) :: l) a w := by
  unfold wpHeld
  simp only [ho]
  exact ⟨hw, h _ fun a w h1 h2 => ⟨h1, h2⟩⟩
end
end Go.Proofs.Ytejkhpgahnncnaa
end

section
namespace Go.Proofs.Ytejkhpgahnncnaa
open Go.RowKit
set_option linter.unusedVariables false
set_option linter.unusedSimpArgs false

theorem grow_owns {w wB : World} {row : Option Nat} {B : Nat} {e : TypeId} {size n : Nat} {v : Value} {xs : List Value} (hg : w.grownBy wB row) (h : w.ownsRow B e size v n xs) (hne : ∀ b, v.ownBlock = some b → row ≠ some b) : wB.ownsRow B e size v n xs :=
  owns_heap h fun b hb => ⟨(ownsR_block h hb).1, hg.block b (ownsR_block h hb).2 fun e => hne b hb e.symm⟩
theorem grow_rows {w wB : World} {row : Option Nat} {B : Nat} {eT e : TypeId} {size : Nat} {v : Value} {vals : List Value} {rows : List (List Value)} (hg : w.grownBy wB row) (h : RowsAt B w eT e size v vals rows) (hne : ∀ b, v.ownBlock = some b → row ≠ some b) (hne2 : ∀ (i : Nat) x b, vals[i]? = some x → x.ownBlock = some b → row ≠ some b) : RowsAt B wB eT e size v vals rows :=
  ⟨h.len, grow_owns hg h.own hne, fun i x r h1 h2 => let ⟨m, hm⟩ := h.row i x r h1 h2; ⟨m, grow_owns hg hm (hne2 i x · h1)⟩, h.apart, h.dist⟩
theorem ne_type {w : World} {B B' : Nat} {e e' : TypeId} {size size' n n' : Nat} {v v' : Value} {xs xs' : List Value} (h : w.ownsRow B e size v n xs) (h' : w.ownsRow B' e' size' v' n' xs') (hne : e ≠ e') : ∀ b, v.ownBlock = some b → v'.ownBlock ≠ some b := fun b h1 h2 => by
  obtain ⟨_, cs, e1⟩ := own_cells h h1
  obtain ⟨_, cs', e2⟩ := own_cells h' h2
  rw [e1] at e2
  injection e2 with e2
  injection e2 with _ e3
  exact hne e3
abbrev z0 : Value := .slice none 0 0
abbrev zRow (r : Int) : List Value := List.replicate r.toNat (.int .i64 0)
/-- Where the walk stands: what it has laid so far. -/
structure StI (w w1 : World) (C : Nat) (u : UnitS) (wr : World) (vp vr vb : Value) (xr : List Value) (np nr nb : Nat) : Prop where
  fc : Fresh wr C (.cells #[vp, vr, z0, vb] 31)
  bel : Below w.heap.size w wr
  low : ∀ b, b < C → wr.heap[b]? = w1.heap[b]?
  wC : w.heap.size ≤ C
  pc : wr.ownsRow (C + 1) 3 1 vp np (List.replicate np (.int .i64 0))
  regs : RowsAt (C + 1) wr 22 3 1 vr xr ((u.regs.take nr).map zRow)
  buf : wr.ownsRow (C + 1) 38 1 vb nb (List.replicate nb z0)
  cross : ∀ (i : Nat) x b, xr[i]? = some x → x.ownBlock = some b → vp.ownBlock ≠ some b
theorem StI.sz {w w1 : World} {C : Nat} {u : UnitS} {wr : World} {vp vr vb : Value} {xr : List Value} {np nr nb : Nat} (h : StI w w1 C u wr vp vr vb xr np nr nb) : C < wr.heap.size := by
  have := h.fc
  unfold Fresh at this
  exact (Array.getElem?_eq_some_iff.1 this).1
theorem StI.later {w w1 : World} {C : Nat} {u : UnitS} {wr wA : World} {vp vr vb : Value} {xr : List Value} {np nr nb : Nat} (h : StI w w1 C u wr vp vr vb xr np nr nb) (hA : Below wr.heap.size wr wA) : StI w w1 C u wA vp vr vb xr np nr nb :=
  ⟨h.fc.later hA, h.bel.trans (hA.mono h.bel.size), fun b hb => (hA.block b (by have := h.sz; omega)).trans (h.low b hb), h.wC, owns_below h.pc hA, h.regs.below hA, owns_below h.buf hA, h.cross⟩
theorem ne_C {w : World} {C : Nat} {e : TypeId} {size n : Nat} {v : Value} {xs : List Value} (h : w.ownsRow (C + 1) e size v n xs) : ∀ b, v.ownBlock = some b → C < b := fun b hb => by have := (ownsR_block h hb).1; omega
section
variable {w w1 : World} {C : Nat} {u : UnitS} {wA wB : World} {vp vr vb : Value} {xr : List Value} {np nr nb : Nat}
/-- What any growing leaves. -/
theorem StI.frame (h : StI w w1 C u wA vp vr vb xr np nr nb) {row : Option Nat} (hg : wA.grownBy wB row) (hr : ∀ b, row = some b → C < b) (j : Nat) (v : Value) :
    Fresh wB C (.cells #[vp, vr, z0, vb] 31) ∧ Below w.heap.size w (wB.setCell ⟨C, j, none⟩ v) ∧ (∀ b, b < C → (wB.setCell ⟨C, j, none⟩ v).heap[b]? = w1.heap[b]?) := by
  have hsz := h.sz
  have hwC := h.wC
  refine ⟨(hg.block C hsz fun e => by have := hr C e.symm; omega).trans h.fc, (h.bel.grown hg (by omega) fun b hb => by have := hr b hb; omega).setCell (p := ⟨C, j, none⟩) hwC v, fun b hb => ?_⟩
  exact (Below.heap_setCell wB ⟨C, j, none⟩ v b (by show b ≠ C; omega)).trans ((hg.block b (by omega) fun e => by have := hr b e.symm; omega).trans (h.low b hb))
theorem StI.pushPc (h : StI w w1 C u wA vp vr vb xr np nr nb) (hg : wA.grownBy wB vp.ownBlock) {g cap : Nat} (ho : wB.ownsRow (C + 1) 3 1 (.slice (some ⟨g, 0, none⟩) (np + 1) cap) (np + 1) (List.replicate np (.int .i64 0) ++ [.int .i64 0])) (hl : vp.ownBlock = some g ∨ g = wA.heap.size) :
    StI w w1 C u (wB.setCell ⟨C, 0, none⟩ (.slice (some ⟨g, 0, none⟩) (np + 1) cap)) (.slice (some ⟨g, 0, none⟩) (np + 1) cap) vr vb xr (np + 1) nr nb := by
  obtain ⟨f1, f2, f3⟩ := h.frame hg (ne_C h.pc) 0 (.slice (some ⟨g, 0, none⟩) (np + 1) cap)
  have hk : Keeps 31 wB (wB.setCell ⟨C, 0, none⟩ (.slice (some ⟨g, 0, none⟩) (np + 1) cap)) := keeps_set f1 _
  refine ⟨f1.put (k := 0) _, f2, f3, h.wC, ?_, (grow_rows hg h.regs (fun b hb e => ne_type h.pc h.regs.own (by decide) b e hb) fun i x b h1 h2 => h.cross i x b h1 h2).keeps hk (by decide) (by decide), owns_keeps (grow_owns hg h.buf fun b hb e => ne_type h.pc h.buf (by decide) b e hb) hk (by decide), fun i x b h1 h2 => ?_⟩
  · have := owns_keeps ho hk (by decide)
    rwa [show List.replicate np (Value.int .i64 0) ++ [.int .i64 0] = List.replicate (np + 1) (.int .i64 0) from by rw [List.replicate_succ']] at this
  · intro e
    obtain rfl : g = b := by simpa [Value.ownBlock] using e
    rcases hl with hl | hl
    · exact h.cross i x g h1 h2 hl
    · have := (h.regs.lt h1 h2).2; omega
theorem StI.pushBuf (h : StI w w1 C u wA vp vr vb xr np nr nb) (hg : wA.grownBy wB vb.ownBlock) {g cap : Nat} (ho : wB.ownsRow (C + 1) 38 1 (.slice (some ⟨g, 0, none⟩) (nb + 1) cap) (nb + 1) (List.replicate nb z0 ++ [z0])) :
    StI w w1 C u (wB.setCell ⟨C, 3, none⟩ (.slice (some ⟨g, 0, none⟩) (nb + 1) cap)) vp vr (.slice (some ⟨g, 0, none⟩) (nb + 1) cap) xr np nr (nb + 1) := by
  obtain ⟨f1, f2, f3⟩ := h.frame hg (ne_C h.buf) 3 (.slice (some ⟨g, 0, none⟩) (nb + 1) cap)
  have hk : Keeps 31 wB (wB.setCell ⟨C, 3, none⟩ (.slice (some ⟨g, 0, none⟩) (nb + 1) cap)) := keeps_set f1 _
  refine ⟨f1.put (k := 3) _, f2, f3, h.wC, owns_keeps (grow_owns hg h.pc fun b hb e => ne_type h.buf h.pc (by decide) b e hb) hk (by decide), (grow_rows hg h.regs (fun b hb e => ne_type h.buf h.regs.own (by decide) b e hb) fun i x b h1 h2 e => ?_).keeps hk (by decide) (by decide), ?_, h.cross⟩
  · have hi : i < ((u.regs.take nr).map zRow).length := by rw [← h.regs.len]; exact (List.getElem?_eq_some_iff.1 h1).1
    obtain ⟨m, hm⟩ := h.regs.row i x _ h1 (List.getElem?_eq_getElem hi)
    exact ne_type h.buf hm (by decide) b e h2
  · have := owns_keeps ho hk (by decide)
    rwa [show List.replicate nb z0 ++ [z0] = List.replicate (nb + 1) z0 from by rw [List.replicate_succ']] at this
theorem StI.pushReg {wr : World} (h : StI w w1 C u wr vp vr vb xr np nr nb) (hA : Below wr.heap.size wr wA) {r : Int} (hr : u.regs[nr]? = some r) {x : Value} {m : Nat} (hx : wA.ownsRow wr.heap.size 3 1 x m (zRow r)) (hg : wA.grownBy wB vr.ownBlock) {g cap : Nat} (ho : wB.ownsRow (C + 1) 22 1 (.slice (some ⟨g, 0, none⟩) (nr + 1) cap) (nr + 1) (xr ++ [x])) (hl : vr.ownBlock = some g ∨ g = wA.heap.size) :
    StI w w1 C u (wB.setCell ⟨C, 1, none⟩ (.slice (some ⟨g, 0, none⟩) (nr + 1) cap)) vp (.slice (some ⟨g, 0, none⟩) (nr + 1) cap) vb (xr ++ [x]) np (nr + 1) nb := by
  have hA' := h.later hA
  obtain ⟨f1, f2, f3⟩ := hA'.frame hg (ne_C hA'.regs.own) 1 (.slice (some ⟨g, 0, none⟩) (nr + 1) cap)
  have hk : Keeps 31 wB (wB.setCell ⟨C, 1, none⟩ (.slice (some ⟨g, 0, none⟩) (nr + 1) cap)) := keeps_set f1 _
  have hlen : ((u.regs.take nr).map zRow).length = nr := by
    have := (List.getElem?_eq_some_iff.1 hr).1
    rw [List.length_map, List.length_take]; omega
  have hp := RowsAt.push (x := x) h.regs (by have := h.sz; omega) hA hx (by rw [hlen]; exact ho) hg hl rfl
  refine ⟨f1.put (k := 1) _, f2, f3, h.wC, owns_keeps (grow_owns hg hA'.pc fun b hb e => ne_type hA'.regs.own hA'.pc (by decide) b e hb) hk (by decide), ?_, owns_keeps (grow_owns hg hA'.buf fun b hb e => ne_type hA'.regs.own hA'.buf (by decide) b e hb) hk (by decide), fun i y b h1 h2 => ?_⟩
  · have := hp.keeps hk (by decide) (by decide)
    rw [List.take_add_one, hr, Option.toList_some, List.map_append]
    exact this
  · rcases Nat.lt_or_ge i xr.length with hi | hi
    · rw [List.getElem?_append_left hi] at h1
      exact h.cross i y b h1 h2
    · rw [List.getElem?_append_right hi] at h1
      have h3 := (List.getElem?_eq_some_iff.1 h1).1
      simp at h3
      have h0 : i - xr.length = 0 := by omega
      rw [h0] at h1
      obtain rfl : x = y := by simpa using h1
      intro e
      have := (ownsR_block hx h2).1
      have := (ownsR_block h.pc e).2
      omega
end
theorem owns_made (w : World) {n : Nat} (hn : n ≤ maxLen) : World.ownsRow (w.alloc (.cells (madeCells #[.int .i64 0] n) 3)) w.heap.size 3 1 (.slice (some ⟨w.heap.size, 0, none⟩) n n) n (List.replicate n (.int .i64 0)) := by
  have e1 : (madeCells #[Value.int .i64 0] n).toList = List.replicate n (.int .i64 0) := by
    have := made_eq #[Value.int .i64 0] n
    rw [show n * (#[Value.int .i64 0]).size = n by simp] at this
    rw [this]
    simp
  refine ⟨by simp, .inr ⟨w.heap.size, n, madeCells #[.int .i64 0] n, rfl, Nat.le_refl _, heap_alloc_new w _, Nat.le_refl _, hn, by rw [size_madeCells, Nat.mul_one], ?_⟩⟩
  rw [e1, Nat.mul_one]
  simp
set_option maxRecDepth 100000 in
set_option maxHeartbeats 4000000 in
theorem rstarto_any (w : World) (v : Value) (u : UnitS) (hv : UnitV w v u) (hr : rightU u = true) : Calls Try.prog 13 #[v] w fun e w' => Below w.heap.size w w' ∧ ∃ vp vr vm vb xr xb, e = .returned (.tuple #[.agg #[vp, vr, vm, vb], .int .i64 0]) ∧ OwnC w.heap.size w' (startC u) vp vr vm vb xr xb := by
  have HV := Lib.hid hv
  obtain ⟨vi, vr, vc, rfl, s1, s2, s3, m1, m2⟩ := hv
  have HS1 := Lib.hid s1
  obtain ⟨a1, c1, rfl, h1⟩ : ∃ a cap, vi = .slice a _ cap ∧ _ := ints_view s1
  obtain ⟨a2, c2, rfl, h2⟩ : ∃ a cap, vr = .slice a _ cap ∧ _ := ints_view s2
  obtain ⟨a3, c3, rfl, h3⟩ : ∃ a cap, vc = .slice a _ cap ∧ _ := slices_view s3
  obtain ⟨u1, u2, u3, u4⟩ := rightU_len hr
  have hx : ∀ i (h : i < u.regs.length), 0 ≤ u.regs[i] ∧ u.regs[i] ≤ 6 := fun i hi => (rightU_thread hr i hi (by omega)).1
  have H2 := Lib.hid h2; have HX := Lib.hid hx
  obtain ⟨ni, hni⟩ : ∃ n, u.init.length = n := ⟨_, rfl⟩
  obtain ⟨nr, hnr⟩ : ∃ n, u.regs.length = n := ⟨_, rfl⟩
  obtain ⟨nc, hnc⟩ : ∃ n, u.code.length = n := ⟨_, rfl⟩
  rw [hni, hnr, hnc] at HV ⊢
  rw [hni] at HS1
  have hr4 : nr ≤ 4 := by omega
  have hi6 : ni ≤ 20 := by omega
  have NI := Lib.hid hni; have NR := Lib.hid hnr
  clear h1 h2 h3 s1 s2 s3 m1 m2 hx u1 u2 u3 u4 hni hnr hnc
  show Calls _ _ #[.agg #[.int .i64 u.mod, .slice a1 ni c1, .slice a2 nr c2, .slice a3 nc c3]] _ _
  obtain ⟨W0, hW0⟩ : ∃ W, W = (w.alloc (.cells #[.int .i64 u.mod, .slice a1 ni c1, .slice a2 nr c2, .slice a3 nc c3] 25)).alloc (.cells #[.slice none 0 0, .slice none 0 0, .slice none 0 0, .slice none 0 0] 31) := ⟨_, rfl⟩
  go_enter Try.func13, Try.ntmps13
  go_wp2_with fail
  refine (right07_any _ _ _ (HV.out.mono ?_)).mono ?_
  · exact ((Below.refl _ _).alloc (Nat.le_refl _) _).alloc (by simp) _
  rintro e w1 ⟨rfl, hb⟩
  rw [hr]
  have hb0 : Below w.heap.size w W0 := hW0 ▸ ((Below.refl _ _).alloc (Nat.le_refl _) _).alloc (by simp) _
  have hsz : W0.heap.size = w.heap.size + 1 + 1 := by rw [hW0]; simp
  rw [← hW0] at hb
  have fu : Fresh W0 w.heap.size (.cells #[.int .i64 u.mod, .slice a1 ni c1, .slice a2 nr c2, .slice a3 nc c3] 25) := by
    rw [hW0]; exact (Fresh.new w _).later ((Below.refl _ _).alloc (Nat.le_refl _) _)
  have fr : Fresh W0 (w.heap.size + 1) (.cells #[.slice none 0 0, .slice none 0 0, .slice none 0 0, .slice none 0 0] 31) := by
    have := heap_alloc_new (w.alloc (.cells #[.int .i64 u.mod, .slice a1 ni c1, .slice a2 nr c2, .slice a3 nc c3] 25)) (.cells #[.slice none 0 0, .slice none 0 0, .slice none 0 0, .slice none 0 0] 31)
    rw [World.size_alloc] at this
    rw [hW0]; exact this
  replace fu := fu.later hb
  replace fr := fr.later hb
  have HB := Lib.hid (hb0.trans (hb.mono hb0.size))
  have hz1 : w.heap.size + 1 + 1 ≤ w1.heap.size := by have := hb.size; omega
  obtain ⟨C, hC⟩ : ∃ C, w1.heap.size = C := ⟨_, rfl⟩
  have FU := Lib.hid fu; have FR := Lib.hid fr; have HC := Lib.hid hC
  clear hb hb0 hsz hW0 fu fr hC
  clear W0
  go_wp2_with fail
  have hI : StI w w1 C u (w1.alloc (.cells #[.slice none 0 0, .slice none 0 0, .slice none 0 0, .slice none 0 0] 31)) z0 z0 z0 [] 0 0 0 := by
    have hC := HC.out
    refine ⟨?_, HB.out.alloc HB.out.size _, fun b hb => Below.heap_alloc _ _ _ (by omega), by omega, World.ownsRow_nil _ _ _ _, RowsAt.nil _ _ _ _ _, World.ownsRow_nil _ _ _ _, fun i x b h => by simp at h⟩
    rw [← hC]; exact Fresh.new w1 _
  have HI := Lib.hid hI
  clear hI
  obtain ⟨i0, hi, hi0, hi1, hi2⟩ : ∃ i, Try.prog.info? 3 = some i ∧ i.zero = some (.int .i64 0) ∧ i.size = 1 ∧ i.bytes = 8 := info_of (by kernel_rfl)
  obtain ⟨k0, ki, ki0, ki1, ki2⟩ : ∃ i, Try.prog.info? 22 = some i ∧ i.zero = some (.slice none 0 0) ∧ i.size = 1 ∧ i.bytes = 24 := info_of (by kernel_rfl)
  obtain ⟨j0, ji, ji0, ji1, ji2⟩ : ∃ i, Try.prog.info? 38 = some i ∧ i.zero = some (.slice none 0 0) ∧ i.size = 1 ∧ i.bytes = 24 := info_of (by kernel_rfl)
  rw [HC.out]
  go_loopw [5] (fun i wr => ∃ (k : Nat) (vp vr vb : Value) (xr : List Value), i = .int .i64 k ∧ k ≤ nr ∧ StI w w1 C u wr vp vr vb xr k k k) (fun i _ => nr - (intOf i).toNat)
  case atStart => exact ⟨0, z0, z0, z0, [], rfl, by omega, HI.out⟩
  case round =>
    obtain ⟨k, vp, vr, vb, xr, rfl, hk, hS⟩ := hrel
    have hlo : ∀ b, b < C → wr.heap[b]? = w1.heap[b]? := hS.low
    have fuR : Fresh wr w.heap.size (.cells #[.int .i64 u.mod, .slice a1 ni c1, .slice a2 nr c2, .slice a3 nc c3] 25) := (hlo _ (by have := HC.out; omega)).trans FU.out
    have zu := (fuR.open (k := 2) rfl).1
    have HST := Lib.hid hS; have FUR := Lib.hid fuR
    clear hS hlo fuR
    by_cases hlt : k < nr
    · have hkl : k < u.regs.length := by have := NR.out; omega
      obtain ⟨b2, o2, rfl, x2, _, _⟩ := H2.out k hkl
      obtain ⟨rn, hrn⟩ : ∃ n : Nat, u.regs[k] = (n : Int) := ⟨u.regs[k].toNat, by have := (HX.out k hkl).1; omega⟩
      have hr6 : rn ≤ 6 := by have := (HX.out k hkl).2; omega
      rw [hrn] at x2
      have X2 := Lib.hid x2
      have HRN := Lib.hid (show u.regs[k]? = some (rn : Int) by rw [List.getElem?_eq_getElem hkl, hrn])
      clear x2
      have hmk : ∀ w' : World, Sem.run Try.prog (Instr.makeSlice 22 (.int .i64 (rn : Int)) (.int .i64 (rn : Int))) w' = .ok (.slice (some ⟨w'.heap.size, 0, none⟩) rn rn) (w'.alloc (.cells (madeCells #[.int .i64 0] rn) 3)) := by
        intro w'
        have := run_makeSlice w' 22 3 i0 (.int .i64 0) Try.underlying22 hi hi0 .i64 .i64 rn rn (by omega) (by omega) (by rw [hi1]; omega) (by rw [hi2]; omega) (by omega)
        rw [hi1, Nat.mul_one] at this
        exact this
      have fc := HST.out.fc
      obtain ⟨y0, y0'⟩ := fc.open (k := 0) rfl
      have hA := HST.out.later ((Below.refl wr.heap.size wr).alloc (Nat.le_refl _) (.cells #[.int .i64 0] 3))
      have HA := Lib.hid hA
      have HSZ := Lib.hid HST.out.sz
      have hszA : (wr.alloc (.cells #[.int .i64 0] 3)).heap.size = wr.heap.size + 1 := World.size_alloc _ _
      clear fc hA
      go_wp2_with (at_builtin; refine wpList_append_lies _ rfl _ _ 22 rfl (C + 1) 3 i0 _ 1 8 Try.underlying22 hi hi0 hi1 hi2 rfl (by decide) _ k (List.replicate k (.int .i64 0)) rfl HA.out.pc _ 1 1 [.int .i64 0] rfl rfl (World.news_of_block (heap_alloc_new wr _)) (by intro x hx; simp at hx; subst hx; rfl) (by decide) ?a1 ?a2 ?a3 _ rfl ?_)
      case a1 => unfold maxLen; omega
      case a2 => omega
      case a3 => rw [hszA]; have := HSZ.out; omega
      intro g cap wB hwB hgr hlc hltB
      have hP := HA.out.pushPc hgr hwB (by rw [hszA]; exact hlc)
      obtain ⟨f1, _, _⟩ := HA.out.frame hgr (ne_C HA.out.pc) 0 z0
      obtain ⟨q0, q0'⟩ := f1.open (k := 0) rfl
      have HP := Lib.hid hP
      clear hP hgr hwB hlc hltB f1 y0 y0' zu hszA
      go_upto_region 8 with (fail)
      clear q0 q0'
      obtain ⟨wC, hwC⟩ : ∃ wC, wB.setCell ⟨C, 0, none⟩ (.slice (some ⟨g, 0, none⟩) (k + 1) cap) = wC := ⟨_, rfl⟩
      rw [hwC] at HP ⊢
      clear hwC
      have hfc := HP.out.fc
      have hlo := HP.out.low
      have fuR : Fresh wC w.heap.size (.cells #[.int .i64 u.mod, .slice a1 ni c1, .slice (some ⟨b2, o2, none⟩) nr c2, .slice a3 nc c3] 25) := (hlo _ (by have := HC.out; omega)).trans FU.out
      have hS0 : wC.drew.cell? ⟨C, 1, none⟩ = some vr ∧ wC.drew.cell? ⟨w.heap.size, 2, none⟩ = some (.slice (some ⟨b2, o2, none⟩) nr c2) ∧ wC.drew.cell? ⟨b2, o2 + k, none⟩ = some (.int .i64 (rn : Int)) := ⟨(hfc.open (k := 1) rfl).1, (fuR.open (k := 2) rfl).1, show wC.cell? _ = _ from cell_later HP.out.bel X2.out⟩
      have HS0 := Lib.hid (show wC.cell? ⟨C, 1, none⟩ = some vr ∧ wC.cell? ⟨w.heap.size, 2, none⟩ = some (.slice (some ⟨b2, o2, none⟩) nr c2) ∧ wC.cell? ⟨b2, o2 + k, none⟩ = some (.int .i64 (rn : Int)) from hS0)
      clear hfc hlo fuR
      refine wp_region_heldT 10 [(0, true), (1, true), (2, true), (3, true), (4, true), (5, true), (6, true), (7, false), (8, false), (9, false)] (fun w' => w'.cell? ⟨C, 1, none⟩ = some vr ∧ w'.cell? ⟨w.heap.size, 2, none⟩ = some (.slice (some ⟨b2, o2, none⟩) nr c2) ∧ w'.cell? ⟨b2, o2 + k, none⟩ = some (.int .i64 (rn : Int))) (by kernel_rfl) (by kernel_rfl) hS0 ?_
      clear hS0
      intro wd hwd hbd
      have HD := Lib.hid (HP.out.later hbd)
      have HSD := Lib.hid (show wd.cell? ⟨C, 1, none⟩ = some vr ∧ wd.cell? ⟨w.heap.size, 2, none⟩ = some (.slice (some ⟨b2, o2, none⟩) nr c2) ∧ wd.cell? ⟨b2, o2 + k, none⟩ = some (.int .i64 (rn : Int)) from ⟨cell_later hbd HS0.out.1, cell_later hbd HS0.out.2.1, cell_later hbd HS0.out.2.2⟩)
      clear hwd hbd HS0
      refine wpHeld_w rfl rfl (.pointer (some ⟨C, 1, none⟩)) (fun w' hS' => ?_) (fun K hK => ?_)
      · obtain ⟨hS1, hS2, hS3⟩ := hS'
        go_simp
      go_simp
      refine hK _ ?_
      clear hK K
      refine wpHeld_w rfl rfl (vr) (fun w' hS' => ?_) (fun K hK => ?_)
      · obtain ⟨hS1, hS2, hS3⟩ := hS'
        go_simp
      go_simp
      refine hK _ ?_
      clear hK K
      refine wpHeld_w rfl rfl (.pointer (some ⟨w.heap.size, 2, none⟩)) (fun w' hS' => ?_) (fun K hK => ?_)
      · obtain ⟨hS1, hS2, hS3⟩ := hS'
        go_simp
      go_simp
      refine hK _ ?_
      clear hK K
      refine wpHeld_w rfl rfl (.slice (some ⟨b2, o2, none⟩) nr c2) (fun w' hS' => ?_) (fun K hK => ?_)
      · obtain ⟨hS1, hS2, hS3⟩ := hS'
        go_simp
      go_simp
      refine hK _ ?_
      clear hK K
      refine wpHeld_w rfl rfl (.int .i64 (k : Int)) (fun w' hS' => ?_) (fun K hK => ?_)
      · obtain ⟨hS1, hS2, hS3⟩ := hS'
        go_simp
      go_simp
      refine hK _ ?_
      clear hK K
      refine wpHeld_w rfl rfl (.pointer (some ⟨b2, o2 + k, none⟩)) (fun w' hS' => ?_) (fun K hK => ?_)
      · obtain ⟨hS1, hS2, hS3⟩ := hS'
        go_simp
      go_simp
      refine hK _ ?_
      clear hK K
      refine wpHeld_w rfl rfl (.int .i64 (rn : Int)) (fun w' hS' => ?_) (fun K hK => ?_)
      · obtain ⟨hS1, hS2, hS3⟩ := hS'
        go_simp
      go_simp
      refine hK _ ?_
      clear hK K
      refine wpHeld_s rfl rfl (fun K hK => ?_)
      go_simp
      have hb1 : Below wd.heap.size wd (wd.alloc (.cells (madeCells #[.int .i64 0] rn) 3)) := (Below.refl _ _).alloc (Nat.le_refl _) _
      refine hK _ _ ⟨cell_later hb1 HSD.out.1, cell_later hb1 HSD.out.2.1, cell_later hb1 HSD.out.2.2⟩ ?_
      clear hK K
      refine wpHeld_s rfl rfl (fun K hK => ?_)
      go_simp
      have ho1 := owns_made wd (n := rn) (by unfold maxLen; omega)
      obtain ⟨wm, hwm⟩ : ∃ wm, wd.alloc (.cells (madeCells #[.int .i64 0] rn) 3) = wm := ⟨_, rfl⟩
      have hszm : wm.heap.size = wd.heap.size + 1 := by rw [← hwm]; exact World.size_alloc _ _
      rw [hwm] at ho1 hb1 ⊢
      clear hwm
      have hb2 : Below wm.heap.size wm (wm.alloc (.cells #[.slice (some ⟨wd.heap.size, 0, none⟩) rn rn] 22)) := (Below.refl _ _).alloc (Nat.le_refl _) _
      have hszA : (wm.alloc (.cells #[.slice (some ⟨wd.heap.size, 0, none⟩) rn rn] 22)).heap.size = wd.heap.size + 1 + 1 := by rw [World.size_alloc, hszm]
      have hnA : (wm.alloc (.cells #[.slice (some ⟨wd.heap.size, 0, none⟩) rn rn] 22)).heap[wd.heap.size + 1]? = some (.cells #[.slice (some ⟨wd.heap.size, 0, none⟩) rn rn] 22 (0, 0)) := by rw [← hszm]; exact heap_alloc_new wm _
      have ho2 := owns_below ho1 hb2
      have hbA := hb1.trans (hb2.mono hb1.size)
      obtain ⟨wA, hwA⟩ : ∃ wA, wm.alloc (.cells #[.slice (some ⟨wd.heap.size, 0, none⟩) rn rn] 22) = wA := ⟨_, rfl⟩
      rw [hwA] at ho2 hbA hszA hnA ⊢
      clear hwA hb2 ho1 hb1 hszm
      refine hK _ _ ⟨cell_later hbA HSD.out.1, cell_later hbA HSD.out.2.1, cell_later hbA HSD.out.2.2⟩ ?_
      clear hK K
      clear wm
      have HBA := Lib.hid hbA; have HOA := Lib.hid ho2; have HNA := Lib.hid hnA; have HZA := Lib.hid hszA
      have hDA := HD.out.later hbA
      have hlen : ((u.regs.take k).map zRow).length = k := by rw [List.length_map, List.length_take]; omega
      have hown := hDA.regs.own
      rw [hlen] at hown
      have HOWN := Lib.hid hown
      have HDA := Lib.hid hDA
      have hszD := HD.out.sz
      clear hbA ho2 hnA hszA hDA hown hlen
      refine wpHeld_s rfl rfl (fun K hK => ?_)
      refine wp_append_lies _ _ _ 28 rfl (C + 1) 22 k0 _ 1 24 Try.underlying28 ki ki0 ki1 ki2 rfl (by decide) vr k xr rfl HOWN.out ⟨wd.heap.size + 1, 0, none⟩ 1 1 [.slice (some ⟨wd.heap.size, 0, none⟩) rn rn] rfl rfl (World.news_of_block HNA.out) (by intro x hx; simp at hx; rw [hx]; rfl) (by decide) ?a1 ?a2 ?a3 _ rfl ?_
      case a1 => unfold maxLen; omega
      case a2 => omega
      case a3 => rw [HZA.out]; omega
      intro g9 cp9 w9 hw9 hgr9 hlc9 hlt9
      have hR9 := HD.out.pushReg HBA.out HRN.out HOA.out hgr9 hw9 hlc9
      obtain ⟨f1, _, f3⟩ := HDA.out.frame hgr9 (ne_C HDA.out.regs.own) 1 z0
      obtain ⟨q0, q0'⟩ := f1.open (k := 1) rfl
      have hlo9 : ∀ b, b < C → w9.heap[b]? = w1.heap[b]? := fun b hb => (Below.heap_setCell w9 ⟨C, 1, none⟩ z0 b (by show b ≠ C; omega)).symm.trans (f3 b hb)
      have fu9 : Fresh w9 w.heap.size (.cells #[.int .i64 u.mod, .slice a1 ni c1, .slice (some ⟨b2, o2, none⟩) nr c2, .slice a3 nc c3] 25) := (hlo9 _ (by have := HC.out; omega)).trans FU.out
      have hbu : b2 < C := by
        have h1 := HC.out
        have : b2 < w.heap.size := World.block_lt_of_cell? _ _ X2.out
        omega
      have hx9 : w9.cell? ⟨b2, o2 + k, none⟩ = some (.int .i64 (rn : Int)) := (World.cell?_of_block (a := ⟨b2, o2 + k, none⟩) (hlo9 b2 hbu)).trans (cell_later HB.out X2.out)
      go_simp
      refine hK _ _ ⟨q0, (fu9.open (k := 2) rfl).1, hx9⟩ ?_
      clear hK K
      have HR9 := Lib.hid hR9
      clear hR9 hgr9 hw9 hlc9 hlt9 f1 f3 hlo9 fu9 hx9
      refine wpHeld_nil ?_
      simp only [List.drop_succ_cons, List.drop_zero]
      go_upto_region 9 with (fail)
      clear q0 q0'
      obtain ⟨wE, hwE⟩ : ∃ wE, w9.setCell ⟨C, 1, none⟩ (.slice (some ⟨g9, 0, none⟩) (k + 1) cp9) = wE := ⟨_, rfl⟩
      rw [hwE] at HR9 ⊢
      clear hwE
      have hfc := HR9.out.fc
      obtain ⟨y3, y3'⟩ := hfc.open (k := 3) rfl
      have HE := Lib.hid (HR9.out.later ((Below.refl wE.heap.size wE).alloc (Nat.le_refl _) (.cells #[.slice none 0 0] 38)))
      have hszE := HR9.out.sz
      have hszF : (wE.alloc (.cells #[.slice none 0 0] 38)).heap.size = wE.heap.size + 1 := World.size_alloc _ _
      clear hfc
      go_wp2_with (at_builtin; refine wpList_append_lies _ rfl _ _ 29 rfl (C + 1) 38 j0 _ 1 24 Try.underlying29 ji ji0 ji1 ji2 rfl (by decide) _ k (List.replicate k z0) rfl HE.out.buf _ 1 1 [.slice none 0 0] rfl rfl (World.news_of_block (heap_alloc_new wE _)) (by intro x hx; simp at hx; subst hx; rfl) (by decide) ?a1 ?a2 ?a3 _ rfl ?_)
      case a1 => unfold maxLen; omega
      case a2 => omega
      case a3 => rw [hszF]; omega
      intro gF cpF wF hwF hgrF hlcF hltF
      have hPF := HE.out.pushBuf hgrF hwF
      obtain ⟨f1, _, _⟩ := HE.out.frame hgrF (ne_C HE.out.buf) 3 z0
      obtain ⟨q0, q0'⟩ := f1.open (k := 3) rfl
      have HPF := Lib.hid hPF
      clear hPF hgrF hwF hlcF hltF f1 y3 y3' hszF
      go_wp2_with fail
      go_round
      case rel => exact ⟨k + 1, _, _, _, _, by go_num, by omega, HPF.out⟩
      case measure => simp [intOf]; omega
    · have hkn : nr = k := by omega
      subst hkn
      have A1 := Lib.hid (arr_ints (HS1.out.mono (mono_int _) HST.out.bel)); rw [NI.out] at A1
      have hfc := HST.out.fc
      obtain ⟨y2, y2'⟩ := hfc.open (k := 2) rfl
      have zi := (FUR.out.open (k := 1) rfl).1
      clear hfc hlt
      go_wp2_with (at_builtin; refine wpList_append_arr rfl _ _ 22 rfl wr.heap.size 3 i0 _ 1 8 Try.underlying22 hi hi0 hi1 hi2 rfl (by decide) _ 0 [] rfl (World.ownsRow_nil _ _ _ _) _ _ _ rfl A1.out (ones_ints _) ?a1 ?a2 ?a3 ?_)
      case a1 => unfold maxLen; omega
      case a2 => omega
      case a3 => exact Nat.le_refl _
      intro vm wM hown hg
      try rw [Nat.zero_add, List.nil_append] at hown
      obtain ⟨q1, q2, q3, rfl⟩ := ownsR_form hown
      have hbM : Below wr.heap.size wr wM := Below.grown (Below.refl _ _) hg (Nat.le_refl _) (by simp [Value.ownBlock])
      have HM := Lib.hid (HST.out.later hbM)
      have HOM := Lib.hid hown
      clear hown hg y2 y2' zu zi
      obtain ⟨y2, y2'⟩ := HM.out.fc.open (k := 2) rfl
      clear hbM
      go_upto_region 11 with (fail)
      clear y2 y2'
      have hk : Keeps 31 wM (wM.setCell ⟨C, 2, none⟩ (.slice q1 q2 q3)) := keeps_set HM.out.fc _
      have hfc := HM.out.fc.put (k := 2) (.slice q1 q2 q3)
      have hpc := owns_keeps HM.out.pc hk (by decide)
      have hrg := HM.out.regs.keeps hk (by decide) (by decide)
      have hbf := owns_keeps HM.out.buf hk (by decide)
      have hmm := owns_keeps HOM.out hk (by decide)
      have hbel := HM.out.bel.setCell (p := ⟨C, 2, none⟩) HM.out.wC (.slice q1 q2 q3)
      have hlow : ∀ b, b < C → (wM.setCell ⟨C, 2, none⟩ (.slice q1 q2 q3)).heap[b]? = w1.heap[b]? := fun b hb => (Below.heap_setCell wM ⟨C, 2, none⟩ _ b (by show b ≠ C; omega)).trans (HM.out.low b hb)
      obtain ⟨wN, hwN⟩ : ∃ wN, wM.setCell ⟨C, 2, none⟩ (.slice q1 q2 q3) = wN := ⟨_, rfl⟩
      rw [hwN] at hfc hpc hrg hbf hmm hbel hlow ⊢
      clear hwN
      obtain ⟨p1, p2, p3, rfl⟩ := ownsR_form hpc
      obtain ⟨r1, r2, r3, rfl⟩ := ownsR_form hrg.own
      obtain ⟨d1, d2, d3, rfl⟩ := ownsR_form hbf
      have hfc : Fresh wN C (.cells #[.slice p1 p2 p3, .slice r1 r2 r3, .slice q1 q2 q3, .slice d1 d2 d3] 31) := hfc
      have hC1 : w.heap.size + 1 < C := by have := HC.out; omega
      have fr6 : Fresh wN (w.heap.size + 1) (.cells #[.slice none 0 0, .slice none 0 0, .slice none 0 0, .slice none 0 0] 31) := (hlow _ hC1).trans FR.out
      have hpm : ∀ b, (Value.slice p1 p2 p3).ownBlock = some b → (Value.slice q1 q2 q3).ownBlock ≠ some b := fun b h1 h2 => by
        have := (ownsR_block HOM.out h2).1
        have := (ownsR_block HST.out.pc h1).2
        omega
      have hpr : ∀ (i : Nat) x b, xr[i]? = some x → x.ownBlock = some b → (Value.slice p1 p2 p3).ownBlock ≠ some b ∧ (Value.slice q1 q2 q3).ownBlock ≠ some b := fun i x b h1 h2 => ⟨HST.out.cross i x b h1 h2, fun h3 => by
        have := (ownsR_block HOM.out h3).1
        have := (HST.out.regs.lt h1 h2).2
        omega⟩
      have HPC := Lib.hid hpc; have HRG := Lib.hid hrg; have HBF := Lib.hid hbf; have HMM := Lib.hid hmm; have HBEL := Lib.hid hbel; have FR6 := Lib.hid fr6; have HPM := Lib.hid hpm; have HPR := Lib.hid hpr
      have g0 := (hfc.open (k := 0) rfl).1; have g1 := (hfc.open (k := 1) rfl).1; have g2 := (hfc.open (k := 2) rfl).1; have g3 := (hfc.open (k := 3) rfl).1
      obtain ⟨h0, h0'⟩ := fr6.open (k := 0) rfl; obtain ⟨h1, h1'⟩ := fr6.open (k := 1) rfl; obtain ⟨h2, h2'⟩ := fr6.open (k := 2) rfl; obtain ⟨h3, h3'⟩ := fr6.open (k := 3) rfl
      clear hpc hrg hbf hmm hbel fr6 hpm hpr hfc hk hlow
      go_wp2_with fail
      clear g0 g1 g2 g3 h0 h0' h1 h1' h2 h2' h3 h3'
      obtain ⟨w9, hw9⟩ : ∃ w9, (((wN.setCell ⟨w.heap.size + 1, 0, none⟩ (.slice p1 p2 p3)).setCell ⟨w.heap.size + 1, 1, none⟩ (.slice r1 r2 r3)).setCell ⟨w.heap.size + 1, 2, none⟩ (.slice q1 q2 q3)).setCell ⟨w.heap.size + 1, 3, none⟩ (.slice d1 d2 d3) = w9 := ⟨_, rfl⟩
      have hG : Fresh w9 (w.heap.size + 1) (.cells #[.slice p1 p2 p3, .slice r1 r2 r3, .slice q1 q2 q3, .slice d1 d2 d3] 31) := by
        rw [← hw9]; exact (((FR6.out.put (k := 0) _).put (k := 1) _).put (k := 2) _).put (k := 3) _
      have hS9 : ∀ b, b ≠ w.heap.size + 1 → w9.heap[b]? = wN.heap[b]? := fun b hb => by
        rw [← hw9]
        exact (Below.heap_setCell _ ⟨w.heap.size + 1, 3, none⟩ _ b hb).trans ((Below.heap_setCell _ ⟨w.heap.size + 1, 2, none⟩ _ b hb).trans ((Below.heap_setCell _ ⟨w.heap.size + 1, 1, none⟩ _ b hb).trans (Below.heap_setCell _ ⟨w.heap.size + 1, 0, none⟩ _ b hb)))
      have hB9 : Below w.heap.size w w9 := by
        rw [← hw9]
        exact (((HBEL.out.setCell (p := ⟨w.heap.size + 1, 0, none⟩) (by show _ ≤ w.heap.size + 1; omega) _).setCell (p := ⟨w.heap.size + 1, 1, none⟩) (by show _ ≤ w.heap.size + 1; omega) _).setCell (p := ⟨w.heap.size + 1, 2, none⟩) (by show _ ≤ w.heap.size + 1; omega) _).setCell (p := ⟨w.heap.size + 1, 3, none⟩) (by show _ ≤ w.heap.size + 1; omega) _
      rw [hw9]
      clear hw9
      have e0 := (hG.open (k := 0) rfl).1; have e1 := (hG.open (k := 1) rfl).1; have e2 := (hG.open (k := 2) rfl).1; have e3 := (hG.open (k := 3) rfl).1
      have hwC := HST.out.wC
      have hszR := HST.out.sz
      have o1 := owns_same' HPC.out (show w.heap.size ≤ C + 1 by omega) fun b h1 h2 => hS9 b (by omega)
      have o2 := HRG.out.same (show w.heap.size ≤ C + 1 by omega) fun b h1 h2 => hS9 b (by omega)
      have o3 := owns_same' HMM.out (show w.heap.size ≤ wr.heap.size by omega) fun b h1 h2 => hS9 b (by omega)
      have o4 := owns_same' HBF.out (show w.heap.size ≤ C + 1 by omega) fun b h1 h2 => hS9 b (by omega)
      refine bodyPost_ret (v := .tuple #[.agg #[.slice p1 p2 p3, .slice r1 r2 r3, .slice q1 q2 q3, .slice d1 d2 d3], .int .i64 0]) (by simp [results, Try.results13, go_sem, e0, e1, e2, e3]; try rfl) rfl ?_
      have hNR := NR.out
      refine ⟨hB9, _, _, _, _, xr, List.replicate nr z0, rfl, ⟨⟨?_, ?_, ?_, ?_⟩, HPM.out, HPR.out⟩⟩
      · simp only [startC, List.length_replicate, List.map_replicate, hNR]
        exact o1
      · simp only [startC, List.map_map]
        rw [List.take_of_length_le (by omega)] at o2
        have e : (u.regs.map ((List.map (Value.int .i64)) ∘ fun r => List.replicate r.toNat 0)) = u.regs.map zRow := List.map_congr_left fun r _ => by simp
        rw [e]; exact o2
      · simp only [startC, NI.out]
        exact o3
      · simp only [startC, List.map_replicate, hNR, List.flatMap_nil]
        refine ⟨by simp, by simpa using o4, fun i x r h1 h2 => ?_, fun i x b h1 h2 => ?_, fun i j x y b h1 h2 h3 h4 => ?_⟩
        · have hx := List.eq_of_mem_replicate (List.mem_of_getElem? h1)
          have hr := List.eq_of_mem_replicate (List.mem_of_getElem? h2)
          rw [hx, hr]
          exact ⟨0, World.ownsRow_nil _ _ _ _⟩
        · have hx := List.eq_of_mem_replicate (List.mem_of_getElem? h1)
          rw [hx] at h2
          cases h2
        · have hx := List.eq_of_mem_replicate (List.mem_of_getElem? h1)
          rw [hx] at h3
          cases h3
end Go.Proofs.Ytejkhpgahnncnaa
end

section
namespace Go.Proofs.Ytejkhpgahnncnaa
open Go.RowKit
set_option linter.unusedVariables false
set_option linter.unusedSimpArgs false

theorem ownsR_len {w : World} {B : Nat} {e : TypeId} {size n : Nat} {v : Value} {xs : List Value} (h : w.ownsRow B e size v n xs) : ∃ a c, v = .slice a n c := by
  rcases h.2 with ⟨rfl, rfl⟩ | ⟨g, cap, cur, rfl, _⟩ <;> exact ⟨_, _, rfl⟩
/-- A row's cell is written, within a row of rows. -/
theorem RowsAt.setIn {B : Nat} {w : World} {eT e : TypeId} {size : Nat} {v : Value} {vals : List Value} {rows : List (List Value)} (h : RowsAt B w eT e size v vals rows) {t k g : Nat} {x : Value} {r : List Value} (hx : vals[t]? = some x) (hr : rows[t]? = some r) (hg : x.ownBlock = some g) (hk : k < r.length) (y : Value) :
    RowsAt B (w.setCell ⟨g, k, none⟩ y) eT e size v vals (rows.set t (r.set k y)) := by
  have hother : ∀ b, b ≠ g → (w.setCell ⟨g, k, none⟩ y).heap[b]? = w.heap[b]? := fun b hb => Below.heap_setCell w ⟨g, k, none⟩ y b hb
  refine ⟨by rw [List.length_set]; exact h.len, ?_, fun i z r' h1 h2 => ?_, h.apart, h.dist⟩
  · rw [List.length_set]
    exact owns_heap h.own fun b hb => ⟨(ownsR_block h.own hb).1, hother b fun e => h.apart t x g hx hg (e ▸ hb)⟩
  · obtain ⟨m, hm⟩ := h.row t x r hx hr
    rw [List.getElem?_set] at h2
    split at h2
    · rename_i hti
      subst hti
      have hz : z = x := by rw [hx] at h1; exact (Option.some.inj h1).symm
      split at h2
      · obtain rfl := Option.some.inj h2
        rw [hz]
        exact ⟨m, owns_set hm hg (by rw [← hm.1]; exact hk) y⟩
      · cases h2
    · rename_i hti
      obtain ⟨m', hm'⟩ := h.row i z r' h1 h2
      exact ⟨m', owns_heap hm' fun b hb => ⟨(ownsR_block hm' hb).1, hother b fun e => hti (h.dist t i x z g hx h1 hg (e ▸ hb))⟩⟩
structure StD (w w1 : World) (B D : Nat) (wr : World) (c : ConfS) (vp vr vm vb : Value) (xr xb : List Value) : Prop where
  fd : Fresh wr D (.cells #[vp, vr, vm, vb] 31)
  bel : Below w.heap.size w wr
  low : ∀ b, b < B → wr.heap[b]? = w1.heap[b]?
  wB : w.heap.size ≤ B
  own : OwnC B wr c vp vr vm vb xr xb
section
variable {w w1 : World} {B D : Nat} {wr : World} {c : ConfS} {vp vr vm vb : Value} {xr xb : List Value}
theorem StD.later {wA : World} (h : StD w w1 B D wr c vp vr vm vb xr xb) (hB : B ≤ wr.heap.size) (hA : Below wr.heap.size wr wA) : StD w w1 B D wA c vp vr vm vb xr xb :=
  ⟨h.fd.later hA, h.bel.trans (hA.mono h.bel.size), fun b hb => (hA.block b (by omega)).trans (h.low b hb), h.wB, ⟨⟨owns_below h.own.pc hA, h.own.regs.below hA, owns_below h.own.mem hA, h.own.buf.below hA⟩, h.own.pm, h.own.pr⟩⟩
/-- A cell of a leaf's block is written: what stays. -/
theorem StD.leaf (h : StD w w1 B D wr c vp vr vm vb xr xb) {g k : Nat} {cs : Array Value} {E : TypeId} (hg : B ≤ g) (hh : wr.heap[g]? = some (.cells cs E (0, 0))) (hE : E ≠ 31) (y : Value) :
    Fresh (wr.setCell ⟨g, k, none⟩ y) D (.cells #[vp, vr, vm, vb] 31) ∧ Below w.heap.size w (wr.setCell ⟨g, k, none⟩ y) ∧ (∀ b, b < B → (wr.setCell ⟨g, k, none⟩ y).heap[b]? = w1.heap[b]?) := by
  have hwB := h.wB
  refine ⟨h.fd.setCell (fun e => ?_) y, h.bel.setCell (p := ⟨g, k, none⟩) (by show _ ≤ g; omega) y, fun b hb => (Below.heap_setCell wr ⟨g, k, none⟩ y b (by show b ≠ g; omega)).trans (h.low b hb)⟩
  have e : g = D := e
  subst e
  have := h.fd
  unfold Fresh at this
  rw [hh] at this
  injection this with this
  injection this with _ this
  exact hE this
theorem StD.setPc (h : StD w w1 B D wr c vp vr vm vb xr xb) {g k : Nat} (hg : vp.ownBlock = some g) (hk : k < c.pc.length) (x : Int) : StD w w1 B D (wr.setCell ⟨g, k, none⟩ (.int .i64 x)) { c with pc := c.pc.set k x } vp vr vm vb xr xb := by
  obtain ⟨hBg, cs, hh⟩ := own_cells h.own.pc hg
  obtain ⟨f1, f2, f3⟩ := h.leaf (k := k) hBg hh (by decide) (.int .i64 x)
  have hks : Keeps 3 wr (wr.setCell ⟨g, k, none⟩ (.int .i64 x)) := keeps_set hh _
  have hne : ∀ b, b ≠ g → (wr.setCell ⟨g, k, none⟩ (.int .i64 x)).heap[b]? = wr.heap[b]? := fun b hb => Below.heap_setCell wr ⟨g, k, none⟩ _ b hb
  refine ⟨f1, f2, f3, h.wB, ⟨⟨?_, ⟨h.own.regs.len, owns_keeps h.own.regs.own hks (by decide), fun i z r h1 h2 => ?_, h.own.regs.apart, h.own.regs.dist⟩, owns_heap h.own.mem fun b hb => ⟨(ownsR_block h.own.mem hb).1, hne b fun e => h.own.pm g hg (e ▸ hb)⟩, h.own.buf.keeps hks (by decide) (by decide)⟩, h.own.pm, h.own.pr⟩⟩
  · have := owns_set h.own.pc hg (k := k) (by omega) (.int .i64 x)
    show World.ownsRow _ _ _ _ _ (c.pc.set k x).length ((c.pc.set k x).map _)
    rw [List.length_set, List.map_set]
    exact this
  · obtain ⟨m, hm⟩ := h.own.regs.row i z r h1 h2
    exact ⟨m, owns_heap hm fun b hb => ⟨(ownsR_block hm hb).1, hne b fun e => (h.own.pr i z b h1 hb).1 (e ▸ hg)⟩⟩
theorem StD.setMem (h : StD w w1 B D wr c vp vr vm vb xr xb) {g k : Nat} (hg : vm.ownBlock = some g) (hk : k < c.mem.length) (x : Int) : StD w w1 B D (wr.setCell ⟨g, k, none⟩ (.int .i64 x)) { c with mem := c.mem.set k x } vp vr vm vb xr xb := by
  obtain ⟨hBg, cs, hh⟩ := own_cells h.own.mem hg
  obtain ⟨f1, f2, f3⟩ := h.leaf (k := k) hBg hh (by decide) (.int .i64 x)
  have hks : Keeps 3 wr (wr.setCell ⟨g, k, none⟩ (.int .i64 x)) := keeps_set hh _
  have hne : ∀ b, b ≠ g → (wr.setCell ⟨g, k, none⟩ (.int .i64 x)).heap[b]? = wr.heap[b]? := fun b hb => Below.heap_setCell wr ⟨g, k, none⟩ _ b hb
  refine ⟨f1, f2, f3, h.wB, ⟨⟨owns_heap h.own.pc fun b hb => ⟨(ownsR_block h.own.pc hb).1, hne b fun e => h.own.pm b hb (e ▸ hg)⟩, ⟨h.own.regs.len, owns_keeps h.own.regs.own hks (by decide), fun i z r h1 h2 => ?_, h.own.regs.apart, h.own.regs.dist⟩, ?_, h.own.buf.keeps hks (by decide) (by decide)⟩, h.own.pm, h.own.pr⟩⟩
  · obtain ⟨m, hm⟩ := h.own.regs.row i z r h1 h2
    exact ⟨m, owns_heap hm fun b hb => ⟨(ownsR_block hm hb).1, hne b fun e => (h.own.pr i z b h1 hb).2 (e ▸ hg)⟩⟩
  · have := owns_set h.own.mem hg (k := k) (by omega) (.int .i64 x)
    show World.ownsRow _ _ _ _ _ (c.mem.set k x).length ((c.mem.set k x).map _)
    rw [List.length_set, List.map_set]
    exact this
theorem StD.setReg (h : StD w w1 B D wr c vp vr vm vb xr xb) {g t k : Nat} {z : Value} {r : List Int} (hz : xr[t]? = some z) (hr : c.regs[t]? = some r) (hg : z.ownBlock = some g) (hk : k < r.length) (x : Int) : StD w w1 B D (wr.setCell ⟨g, k, none⟩ (.int .i64 x)) { c with regs := c.regs.set t (r.set k x) } vp vr vm vb xr xb := by
  obtain ⟨m, hm⟩ := h.own.regs.row t z _ hz (by rw [List.getElem?_map, hr]; rfl)
  obtain ⟨hBg, cs, hh⟩ := own_cells hm hg
  obtain ⟨f1, f2, f3⟩ := h.leaf (k := k) hBg hh (by decide) (.int .i64 x)
  have hks : Keeps 3 wr (wr.setCell ⟨g, k, none⟩ (.int .i64 x)) := keeps_set hh _
  have hne : ∀ b, b ≠ g → (wr.setCell ⟨g, k, none⟩ (.int .i64 x)).heap[b]? = wr.heap[b]? := fun b hb => Below.heap_setCell wr ⟨g, k, none⟩ _ b hb
  refine ⟨f1, f2, f3, h.wB, ⟨⟨owns_heap h.own.pc fun b hb => ⟨(ownsR_block h.own.pc hb).1, hne b fun e => (h.own.pr t z g hz hg).1 (e ▸ hb)⟩, ?_, owns_heap h.own.mem fun b hb => ⟨(ownsR_block h.own.mem hb).1, hne b fun e => (h.own.pr t z g hz hg).2 (e ▸ hb)⟩, h.own.buf.keeps hks (by decide) (by decide)⟩, h.own.pm, h.own.pr⟩⟩
  have := h.own.regs.setIn hz (by rw [List.getElem?_map, hr]; rfl) hg (by rw [List.length_map]; exact hk) (.int .i64 x)
  show RowsAt _ _ _ _ _ _ _ ((c.regs.set t (r.set k x)).map _)
  rw [List.map_set, List.map_set]
  exact this
theorem StD.putBuf (h : StD w w1 B D wr c vp vr vm vb xr xb) (hB : B ≤ wr.heap.size) {w2 : World} (hb : Below wr.heap.size wr w2) {k m g : Nat} {x y : Value} {b' : List EntryS} (hx : xb[k]? = some x) (hy : w2.ownsRow wr.heap.size 40 2 y m (b'.flatMap entC)) (hg : vb.ownBlock = some g) :
    StD w w1 B D (w2.setCell ⟨g, k, none⟩ y) { c with buf := c.buf.set k b' } vp vr vm vb xr (xb.set k y) := by
  have h2 := h.later hB hb
  obtain ⟨hBg, cs, hh⟩ := own_cells h2.own.buf.own hg
  obtain ⟨f1, f2, f3⟩ := h2.leaf (k := k) hBg hh (by decide) y
  exact ⟨f1, f2, f3, h.wB, ⟨h.own.toCopyIs.putBuf hx (keeps_below hb) (fun b h1 _ => hb.block b h1) (owns_same' hy hB fun _ _ _ => rfl) (fun b h1 => .inr (ownsR_block hy h1).1) hg, h.own.pm, h.own.pr⟩⟩
end
end Go.Proofs.Ytejkhpgahnncnaa
end

section
namespace Go.Proofs.Ytejkhpgahnncnaa
set_option linter.unusedVariables false
set_option linter.unusedSimpArgs false

def atP (s : List UInt8) (i : Nat) : Int := (nextP (s.drop i) false).1
theorem next_at (s : List UInt8) (i : Nat) (b : Bool) : (nextP (s.drop i) b).1 = atP s i ∧ (nextP (s.drop i) b).2.1 = s.drop (i + 1) := by
  unfold atP
  rw [show s.drop (i + 1) = (s.drop i).drop 1 by rw [List.drop_drop]]
  cases s.drop i <;> exact ⟨rfl, rfl⟩
theorem atP_lt (s : List UInt8) (i : Nat) : 0 ≤ atP s i ∧ atP s i < 256 := nextP_lt _ _
def rowA (s : List UInt8) (i m : Nat) : List Int := (List.range m).map fun k => atP s (i + k)
theorem rowA_succ (s : List UInt8) (i m : Nat) : rowA s i (m + 1) = rowA s i m ++ [atP s (i + m)] := by simp [rowA, List.range_succ]
theorem rowA_len (s : List UInt8) (i m : Nat) : (rowA s i m).length = m := by simp [rowA]
theorem rowA_cons (s : List UInt8) (i m : Nat) : rowA s i (m + 1) = atP s i :: rowA s (i + 1) m := by
  simp only [rowA, List.range_succ_eq_map, List.map_cons, List.map_map, Nat.add_zero]
  congr 1
  exact List.map_congr_left fun k _ => by simp [Nat.add_assoc, Nat.add_comm 1]
theorem row_at (s : List UInt8) : ∀ (m i : Nat) (b : Bool), (rowP m (s.drop i) b).1 = rowA s i m ∧ (rowP m (s.drop i) b).2.1 = s.drop (i + m)
  | 0, i, b => ⟨rfl, rfl⟩
  | m + 1, i, b => by
    obtain ⟨h1, h2⟩ := next_at s i b
    obtain ⟨h3, h4⟩ := row_at s m (i + 1) (nextP (s.drop i) b).2.2
    simp only [rowP, h1, h2, h3, h4, rowA_cons, true_and]
    rw [show i + (m + 1) = i + 1 + m by omega]
def entsA (s : List UInt8) (i m : Nat) : List EntryS := (List.range m).map fun k => ⟨atP s (i + 2 * k), atP s (i + 2 * k + 1)⟩
theorem entsA_succ (s : List UInt8) (i m : Nat) : entsA s i (m + 1) = entsA s i m ++ [⟨atP s (i + 2 * m), atP s (i + 2 * m + 1)⟩] := by simp [entsA, List.range_succ]
theorem entsA_cons (s : List UInt8) (i m : Nat) : entsA s i (m + 1) = ⟨atP s i, atP s (i + 1)⟩ :: entsA s (i + 2) m := by
  simp only [entsA, List.range_succ_eq_map, List.map_cons, List.map_map, Nat.mul_zero, Nat.add_zero]
  congr 1
  refine List.map_congr_left fun k _ => ?_
  simp only [Function.comp, Nat.mul_succ]
  rw [show i + (2 * k + 2) = i + 2 + 2 * k by omega]
theorem ents_at (s : List UInt8) : ∀ (m i : Nat) (b : Bool), (entsP m (s.drop i) b).1 = entsA s i m ∧ (entsP m (s.drop i) b).2.1 = s.drop (i + 2 * m)
  | 0, i, b => ⟨rfl, rfl⟩
  | m + 1, i, b => by
    obtain ⟨h1, h2⟩ := next_at s i b
    obtain ⟨h3, h4⟩ := next_at s (i + 1) (nextP (s.drop i) b).2.2
    obtain ⟨h5, h6⟩ := ents_at s m (i + 1 + 1) (nextP (s.drop (i + 1)) (nextP (s.drop i) b).2.2).2.2
    simp only [entsP, h1, h2, h3, h4, h5, h6, entsA_cons, true_and]
    rw [show i + 2 * (m + 1) = i + 1 + 1 + 2 * m by omega]
def thrA (s : List UInt8) (i m : Nat) : Thr := (256 * atP s i + atP s (i + 1), rowA s (i + 2) m, entsA s (i + 2 + m + 1) (atP s (i + 2 + m)).toNat)
def nextA (s : List UInt8) (i m : Nat) : Nat := i + 2 + m + 1 + 2 * (atP s (i + 2 + m)).toNat
theorem thr_at (s : List UInt8) (m i : Nat) (b : Bool) : (thrP m (s.drop i) b).1 = thrA s i m ∧ (thrP m (s.drop i) b).2.1 = s.drop (nextA s i m) := by
  obtain ⟨h1, h2⟩ := next_at s i b
  obtain ⟨h3, h4⟩ := next_at s (i + 1) (nextP (s.drop i) b).2.2
  obtain ⟨h5, h6⟩ := row_at s m (i + 1 + 1) (nextP (s.drop (i + 1)) (nextP (s.drop i) b).2.2).2.2
  obtain ⟨h7, h8⟩ := next_at s (i + 1 + 1 + m) (rowP m (s.drop (i + 1 + 1)) (nextP (s.drop (i + 1)) (nextP (s.drop i) b).2.2).2.2).2.2
  simp only [thrP, h1, h2, h3, h4, h5, h6, h7, h8]
  obtain ⟨h9, h10⟩ := ents_at s (atP s (i + 1 + 1 + m)).toNat (i + 1 + 1 + m + 1) (nextP (s.drop (i + 1 + 1 + m)) (rowP m (s.drop (i + 1 + 1)) (nextP (s.drop (i + 1)) (nextP (s.drop i) b).2.2).2.2).2.2).2.2
  rw [h9, h10]
  exact ⟨rfl, rfl⟩
def thrsA (s : List UInt8) : Nat → List Int → List Thr
  | _, [] => []
  | i, m :: ms => thrA s i m.toNat :: thrsA s (nextA s i m.toNat) ms
def endA (s : List UInt8) : Nat → List Int → Nat
  | i, [] => i
  | i, m :: ms => endA s (nextA s i m.toNat) ms
theorem thrsA_snoc (s : List UInt8) : ∀ (l : List Int) (i : Nat) (m : Int), thrsA s i (l ++ [m]) = thrsA s i l ++ [thrA s (endA s i l) m.toNat] ∧ endA s i (l ++ [m]) = nextA s (endA s i l) m.toNat
  | [], i, m => ⟨rfl, rfl⟩
  | x :: l, i, m => by
    obtain ⟨h1, h2⟩ := thrsA_snoc s l (nextA s i x.toNat) m
    exact ⟨by simp only [List.cons_append, thrsA, endA, h1], by simp only [List.cons_append, endA, h2]⟩
theorem thrsA_len (s : List UInt8) : ∀ (l : List Int) (i : Nat), (thrsA s i l).length = l.length
  | [], _ => rfl
  | x :: l, i => by simp [thrsA, thrsA_len s l]
theorem thrs_at (s : List UInt8) : ∀ (ms : List Int) (i : Nat) (b : Bool), (thrsP ms (s.drop i) b).1 = thrsA s i ms ∧ (thrsP ms (s.drop i) b).2.1 = s.drop (endA s i ms)
  | [], i, b => ⟨rfl, rfl⟩
  | m :: ms, i, b => by
    obtain ⟨h1, h2⟩ := thr_at s m.toNat i b
    obtain ⟨h3, h4⟩ := thrs_at s ms (nextA s i m.toNat) (thrP m.toNat (s.drop i) b).2.2
    simp only [thrsP, h1, h2, h3, h4, thrsA, endA, and_self]
/-- Where the threads before the t-th were read. -/
def confT (u : UnitS) (s : List UInt8) (t : Nat) : ConfS :=
  ⟨(thrsA s 0 (u.regs.take t)).map (·.1) ++ List.replicate (u.regs.length - t) 0, (thrsA s 0 (u.regs.take t)).map (·.2.1) ++ (u.regs.drop t).map (fun r => List.replicate r.toNat 0), u.init, (thrsA s 0 (u.regs.take t)).map (·.2.2) ++ List.replicate (u.regs.length - t) []⟩
def idxT (u : UnitS) (s : List UInt8) (t : Nat) : Nat := endA s 0 (u.regs.take t)
theorem confT_zero (u : UnitS) (s : List UInt8) : confT u s 0 = startC u := by simp [confT, startC, thrsA]
theorem set_mid {α : Type} {a : List α} {x y : α} {b : List α} {t : Nat} (h : a.length = t) : (a ++ x :: b).set t y = a ++ y :: b := by
  subst h
  rw [List.set_append_right _ _ (Nat.le_refl _), Nat.sub_self, List.set_cons_zero]
theorem confT_len (u : UnitS) (s : List UInt8) (t : Nat) (ht : t ≤ u.regs.length) : (thrsA s 0 (u.regs.take t)).length = t := by rw [thrsA_len, List.length_take]; omega
theorem confT_succ (u : UnitS) (s : List UInt8) (t : Nat) (ht : t < u.regs.length) :
    confT u s (t + 1) = ⟨(confT u s t).pc.set t (thrA s (idxT u s t) u.regs[t].toNat).1, (confT u s t).regs.set t (thrA s (idxT u s t) u.regs[t].toNat).2.1, u.init, (confT u s t).buf.set t (thrA s (idxT u s t) u.regs[t].toNat).2.2⟩ ∧ idxT u s (t + 1) = nextA s (idxT u s t) u.regs[t].toNat := by
  obtain ⟨h1, h2⟩ := thrsA_snoc s (u.regs.take t) 0 u.regs[t]
  rw [List.take_append_getElem ht] at h1 h2
  have hl := confT_len u s t (Nat.le_of_lt ht)
  refine ⟨?_, h2⟩
  have e1 : u.regs.length - t = (u.regs.length - (t + 1)) + 1 := by omega
  simp only [confT, idxT, h1, List.map_append, List.map_cons, List.map_nil, List.append_assoc, List.cons_append, List.nil_append]
  rw [List.drop_eq_getElem_cons ht, e1, List.replicate_succ, List.replicate_succ, List.map_cons, set_mid (by rw [List.length_map, hl]), set_mid (by rw [List.length_map, hl]), set_mid (by rw [List.length_map, hl])]
theorem confT_at (u : UnitS) (s : List UInt8) (t : Nat) (ht : t < u.regs.length) : (confT u s t).regs[t]? = some (List.replicate u.regs[t].toNat 0) := by
  have hl := confT_len u s t (Nat.le_of_lt ht)
  simp only [confT]
  rw [List.getElem?_append_right (by rw [List.length_map, hl]; exact Nat.le_refl _), List.length_map, hl, Nat.sub_self, List.drop_eq_getElem_cons ht, List.map_cons]
  rfl
/-- The whole: what is read of the bytes. -/
theorem confT_end (u : UnitS) (s : List UInt8) : (confP u s).1 = { confT u s u.regs.length with mem := rowA s (idxT u s u.regs.length) u.init.length } ∧ (confP u s).2.1 = s.drop (idxT u s u.regs.length + u.init.length) := by
  have h0 := thrs_at s u.regs 0 false
  rw [List.drop_zero] at h0
  obtain ⟨h1, h2⟩ := h0
  obtain ⟨h3, h4⟩ := row_at s u.init.length (endA s 0 u.regs) (thrsP u.regs s false).2.2
  simp only [confP, h1, h2, h3, h4, confT, idxT, List.take_length, Nat.sub_self, List.replicate_zero, List.append_nil, List.drop_length, List.map_nil, and_self]
theorem idxT_le (s : List UInt8) : ∀ (l : List Int) (i : Nat), (∀ x ∈ l, x ≤ 6) → endA s i l ≤ i + 600 * l.length
  | [], i, _ => Nat.le_refl _
  | m :: l, i, h => by
    have h1 := idxT_le s l (nextA s i m.toNat) fun x hx => h x (List.mem_cons_of_mem _ hx)
    have h2 := h m List.mem_cons_self
    have h3 := atP_lt s (i + 2 + m.toNat)
    simp only [endA, List.length_cons]
    have : nextA s i m.toNat ≤ i + 600 := by unfold nextA; omega
    omega
/-- What the document says of these bytes. -/
def decP (u : UnitS) (s : List UInt8) (model room : Int) : ConfS × Int := if rightU u && (!(confP u s).2.2 && ((confP u s).2.1 == [] && confOk u (confP u s).1 model room)) then ((confP u s).1, 0) else (zeroC, 8)
theorem dec_r (u : UnitS) (s : List UInt8) (model room : Int) (hu : rightU u = true) : decP u s model room = if confOk u (confP u s).1 model room && (encB (confP u s).1 == s) then ((confP u s).1, 0) else (zeroC, 8) := by
  unfold decP
  rw [hu, Bool.true_and]
  cases hc : confOk u (confP u s).1 model room with
  | false => simp
  | true =>
    have hb : ∀ i (hi : i < (confP u s).1.buf.length), (confP u s).1.buf[i].length ≤ 255 := by
      intro i hi
      have h1 : (confP u s).1.buf = (thrsP u.regs s false).1.map (·.2.2) := rfl
      have h2 : (confP u s).1.buf[i] ∈ (thrsP u.regs s false).1.map (·.2.2) := h1 ▸ List.getElem_mem hi
      obtain ⟨x, hx, e⟩ := List.mem_map.1 h2
      have := (thrsP_parts u.regs s false (fun x hx => by
        obtain ⟨j, hj, rfl⟩ := List.getElem_of_mem hx
        obtain ⟨_, _, _, h4⟩ := rightU_len hu
        exact (rightU_thread hu j hj (by omega)).1.2) x hx).2
      rw [← e]; omega
    cases he : encB (confP u s).1 == s with
    | true =>
      have he := eq_of_beq he
      have h3 := confP_encB hu hc hb
      rw [he] at h3
      have e2 : (confP u s).2 = ([], false) := by rw [h3]
      rw [e2]
      rfl
    | false =>
      rw [if_neg, if_neg (by simp)]
      intro h
      simp only [Bool.and_eq_true, Bool.not_eq_true', beq_iff_eq] at h
      have := confP_ok h.1 h.2.1
      rw [beq_eq_false_iff_ne] at he
      exact he this
end Go.Proofs.Ytejkhpgahnncnaa
end

section
namespace Go.Proofs.Ytejkhpgahnncnaa
set_option linter.unusedVariables false
set_option linter.unusedSimpArgs false
set_option maxRecDepth 100000
set_option maxHeartbeats 4000000

theorem ok_ref12_Encode {n:Nat} ⦃v0_u:UnitS⦄ ⦃v1_c:ConfS⦄ ⦃v2_model:Int⦄ ⦃v3_room:Int⦄ ⦃r:((List UInt8)×Int)⦄:m_ref12_Encode n v0_u v1_c v2_model v3_room=some r→CN n 22 [AV.agg [iA (v0_u.mod),AV.sl 1 (List.map encI (v0_u.init)),AV.sl 1 (List.map encI (v0_u.regs)),AV.sl 1 (List.map encThr (v0_u.code))],AV.agg [AV.sl 1 (List.map encI (v1_c.pc)),AV.sl 1 (List.map encRow (v1_c.regs)),AV.sl 1 (List.map encI (v1_c.mem)),AV.sl 1 (List.map encBuf (v1_c.buf))],iA v2_model,iA v3_room] []=some (AV.tup [sA r.1,iA r.2],[]):=by
 intro h;rcases n with _|n;cases h
 rw [m_ref12_Encode] at h
 refine callN_eq' Try.func22 (by rfl) rfl rfl (Nat.le_of_ble_eq_true rfl) ?_
 intro call hc;conv=>lhs;whnf
 revert h
 refine ca hc (fun _ h=>ok_ref09_Right h) ?_;intro y1
 refine br ?_ ?_
 intro h;refine bind_some2 h ?_;clear h;intro o13 ho13 h
 refine lq (σ:=(Int×(List Int))) (τ:=(List Int)) (ν:=((List UInt8)×Int)) 0 (fun (s4,s5) a7=>stOf 128 [(5,AV.ptr 1 0),(10,AV.row 2 (List.length s5)),(11,iA s4)]) (fun (s4,s5) a7=>[Ob.var 25 [iA (v0_u.mod),AV.sl 1 (List.map encI (v0_u.init)),AV.sl 1 (List.map encI (v0_u.regs)),AV.sl 1 (List.map encThr (v0_u.code))],Ob.var 31 [AV.sl 1 (List.map encI (v1_c.pc)),AV.sl 1 (List.map encRow (v1_c.regs)),AV.sl 1 (List.map encI (v1_c.mem)),AV.sl 1 (List.map encBuf (v1_c.buf))],Ob.row 5 1 (List.map (encK .u8) s5)]) (fun x63 a62=>stOf 128 [(5,AV.ptr 1 0),(10,AV.row 2 (List.length x63))]) (fun x63 a62=>[Ob.var 25 [iA (v0_u.mod),AV.sl 1 (List.map encI (v0_u.init)),AV.sl 1 (List.map encI (v0_u.regs)),AV.sl 1 (List.map encThr (v0_u.code))],Ob.var 31 [AV.sl 1 (List.map encI (v1_c.pc)),AV.sl 1 (List.map encRow (v1_c.regs)),AV.sl 1 (List.map encI (v1_c.mem)),AV.sl 1 (List.map encBuf (v1_c.buf))],Ob.row 5 1 (List.map (encK .u8) x63)]) (fun v=>(AV.tup [sA v.1,iA v.2],[])) (fun k s=>ref12_Encode_L0 n v1_c k s.1 s.2) (fun s=>rfl) o13 n (0,([]:List Int)) (fun _=>0) ho13 ?_ ?_
 intro k6 ss a7 K8 cont9 hK10 hcont11 h hr12
 obtain ⟨s4,s5⟩:=ss
 replace h:ref12_Encode_L0 n v1_c (k6+1) s4 s5=some o13:=h
 rw [ref12_Encode_L0] at h
 conv=>lhs;whnf
 revert h
 refine br ?_ ?_
 refine ix ?_;intro x15
 refine ix ?_;intro x16
 refine ar (ap (encK .u8) (List.map (encK .u8) s5) s5 ([[AV.int .u8 (IntKind.u8.wrap (IntKind.i64.wrap (Int.tdiv x15 256)))],[AV.int .u8 (IntKind.u8.wrap ((Int.tmod x16 256)))]]) ([IntKind.u8.wrap (IntKind.i64.wrap (Int.tdiv x15 256)),IntKind.u8.wrap ((Int.tmod x16 256))]:List Int)) ?_
 intro h;refine bind_some2 h ?_;clear h;intro o28 ho28 h
 refine lq (σ:=(Int×(List Int))) (τ:=(List Int)) (ν:=((List UInt8)×Int)) 2 (fun (s19,s20) a22=>stOf 128 [(5,AV.ptr 1 0),(10,AV.row 2 (List.length s20)),(11,iA s4),(12,iA s19)]) (fun (s19,s20) a22=>[Ob.var 25 [iA (v0_u.mod),AV.sl 1 (List.map encI (v0_u.init)),AV.sl 1 (List.map encI (v0_u.regs)),AV.sl 1 (List.map encThr (v0_u.code))],Ob.var 31 [AV.sl 1 (List.map encI (v1_c.pc)),AV.sl 1 (List.map encRow (v1_c.regs)),AV.sl 1 (List.map encI (v1_c.mem)),AV.sl 1 (List.map encBuf (v1_c.buf))],Ob.row 5 1 (List.map (encK .u8) s20)]) (fun x36 a35=>stOf 128 [(5,AV.ptr 1 0),(10,AV.row 2 (List.length x36)),(11,iA s4)]) (fun x36 a35=>[Ob.var 25 [iA (v0_u.mod),AV.sl 1 (List.map encI (v0_u.init)),AV.sl 1 (List.map encI (v0_u.regs)),AV.sl 1 (List.map encThr (v0_u.code))],Ob.var 31 [AV.sl 1 (List.map encI (v1_c.pc)),AV.sl 1 (List.map encRow (v1_c.regs)),AV.sl 1 (List.map encI (v1_c.mem)),AV.sl 1 (List.map encBuf (v1_c.buf))],Ob.row 5 1 (List.map (encK .u8) x36)]) (fun v=>(AV.tup [sA v.1,iA v.2],[])) (fun k s=>ref12_Encode_L1 n v1_c s4 k s.1 s.2) (fun s=>rfl) o28 n (0,(s5++([IntKind.u8.wrap (IntKind.i64.wrap (Int.tdiv x15 256)),IntKind.u8.wrap ((Int.tmod x16 256))]:List Int))) (fun _=>0) ho28 ?_ ?_
 intro k21 ss a22 K23 cont24 hK25 hcont26 h hr27
 obtain ⟨s19,s20⟩:=ss
 replace h:ref12_Encode_L1 n v1_c s4 (k21+1) s19 s20=some o28:=h
 rw [ref12_Encode_L1] at h
 conv=>lhs;whnf
 revert h
 refine ix ?_;intro x29
 refine br ?_ ?_
 refine ix ?_;intro x31
 refine ix ?_;intro x32
 refine ar (ap (encK .u8) (List.map (encK .u8) s20) s20 ([[AV.int .u8 (IntKind.u8.wrap x32)]]) ([IntKind.u8.wrap x32]:List Int)) ?_
 exact fun h=>cq (hcont26 (IntKind.i64.wrap (s19+1),(s20++([IntKind.u8.wrap x32]:List Int))) (fun _=>0) h)
 intro h;cases sj h
 exact kq (hr27 (fun _=>0))
 refine lrc ?_ ?_
 intro v e;subst e;cases sj h;exact hr12
 intro x36 a35 e;subst e
 dsimp only at h
 conv=>lhs;whnf
 revert h
 refine ix ?_;intro x37
 refine ar (ap (encK .u8) (List.map (encK .u8) x36) x36 ([[AV.int .u8 (IntKind.u8.wrap (((x37.length:Nat):Int)))]]) ([IntKind.u8.wrap (((x37.length:Nat):Int))]:List Int)) ?_
 intro h;refine bind_some2 h ?_;clear h;intro o49 ho49 h
 refine lq (σ:=(Int×(List Int))) (τ:=(List Int)) (ν:=((List UInt8)×Int)) 4 (fun (s40,s41) a43=>stOf 128 [(5,AV.ptr 1 0),(10,AV.row 2 (List.length s41)),(11,iA s4),(13,iA s40)]) (fun (s40,s41) a43=>[Ob.var 25 [iA (v0_u.mod),AV.sl 1 (List.map encI (v0_u.init)),AV.sl 1 (List.map encI (v0_u.regs)),AV.sl 1 (List.map encThr (v0_u.code))],Ob.var 31 [AV.sl 1 (List.map encI (v1_c.pc)),AV.sl 1 (List.map encRow (v1_c.regs)),AV.sl 1 (List.map encI (v1_c.mem)),AV.sl 1 (List.map encBuf (v1_c.buf))],Ob.row 5 1 (List.map (encK .u8) s41)]) (fun x59 a58=>stOf 128 [(5,AV.ptr 1 0),(10,AV.row 2 (List.length x59)),(11,iA s4)]) (fun x59 a58=>[Ob.var 25 [iA (v0_u.mod),AV.sl 1 (List.map encI (v0_u.init)),AV.sl 1 (List.map encI (v0_u.regs)),AV.sl 1 (List.map encThr (v0_u.code))],Ob.var 31 [AV.sl 1 (List.map encI (v1_c.pc)),AV.sl 1 (List.map encRow (v1_c.regs)),AV.sl 1 (List.map encI (v1_c.mem)),AV.sl 1 (List.map encBuf (v1_c.buf))],Ob.row 5 1 (List.map (encK .u8) x59)]) (fun v=>(AV.tup [sA v.1,iA v.2],[])) (fun k s=>ref12_Encode_L2 n v1_c s4 k s.1 s.2) (fun s=>rfl) o49 n (0,(x36++([IntKind.u8.wrap (((x37.length:Nat):Int))]:List Int))) (fun _=>0) ho49 ?_ ?_
 intro k42 ss a43 K44 cont45 hK46 hcont47 h hr48
 obtain ⟨s40,s41⟩:=ss
 replace h:ref12_Encode_L2 n v1_c s4 (k42+1) s40 s41=some o49:=h
 rw [ref12_Encode_L2] at h
 conv=>lhs;whnf
 revert h
 refine ix ?_;intro x50
 refine br ?_ ?_
 refine ix ?_;intro x52
 refine ix ?_;intro x53
 refine ix ?_;intro x54
 refine ix ?_;intro x55
 refine ar (ap (encK .u8) (List.map (encK .u8) s41) s41 ([[AV.int .u8 (IntKind.u8.wrap (x53.loc))],[AV.int .u8 (IntKind.u8.wrap (x55.n))]]) ([IntKind.u8.wrap (x53.loc),IntKind.u8.wrap (x55.n)]:List Int)) ?_
 exact fun h=>cq (hcont47 (IntKind.i64.wrap (s40+1),(s41++([IntKind.u8.wrap (x53.loc),IntKind.u8.wrap (x55.n)]:List Int))) (fun _=>0) h)
 intro h;cases sj h
 exact kq (hr48 (fun _=>0))
 refine lrc ?_ ?_
 intro v e;subst e;cases sj h;exact hr12
 intro x59 a58 e;subst e
 dsimp only at h
 conv=>lhs;whnf
 revert h
 exact fun h=>cq (hcont11 (IntKind.i64.wrap (s4+1),x59) (fun _=>0) h)
 intro h;cases sj h
 exact kq (hr12 (fun _=>0))
 refine lrc ?_ ?_
 intro v e;subst e;cases sj h;rfl
 intro x63 a62 e;subst e
 dsimp only at h
 conv=>lhs;whnf
 revert h
 intro h;refine bind_some2 h ?_;clear h;intro o73 ho73 h
 refine lq (σ:=(Int×(List Int))) (τ:=(List Int)) (ν:=((List UInt8)×Int)) 6 (fun (s64,s65) a67=>stOf 128 [(5,AV.ptr 1 0),(10,AV.row 2 (List.length s65)),(14,iA s64)]) (fun (s64,s65) a67=>[Ob.var 25 [iA (v0_u.mod),AV.sl 1 (List.map encI (v0_u.init)),AV.sl 1 (List.map encI (v0_u.regs)),AV.sl 1 (List.map encThr (v0_u.code))],Ob.var 31 [AV.sl 1 (List.map encI (v1_c.pc)),AV.sl 1 (List.map encRow (v1_c.regs)),AV.sl 1 (List.map encI (v1_c.mem)),AV.sl 1 (List.map encBuf (v1_c.buf))],Ob.row 5 1 (List.map (encK .u8) s65)]) (fun x79 a78=>stOf 128 [(10,AV.row 2 (List.length x79))]) (fun x79 a78=>[Ob.var 25 [iA (v0_u.mod),AV.sl 1 (List.map encI (v0_u.init)),AV.sl 1 (List.map encI (v0_u.regs)),AV.sl 1 (List.map encThr (v0_u.code))],Ob.var 31 [AV.sl 1 (List.map encI (v1_c.pc)),AV.sl 1 (List.map encRow (v1_c.regs)),AV.sl 1 (List.map encI (v1_c.mem)),AV.sl 1 (List.map encBuf (v1_c.buf))],Ob.row 5 1 (List.map (encK .u8) x79)]) (fun v=>(AV.tup [sA v.1,iA v.2],[])) (fun k s=>ref12_Encode_L3 n v1_c k s.1 s.2) (fun s=>rfl) o73 n (0,x63) (fun _=>0) ho73 ?_ ?_
 intro k66 ss a67 K68 cont69 hK70 hcont71 h hr72
 obtain ⟨s64,s65⟩:=ss
 replace h:ref12_Encode_L3 n v1_c (k66+1) s64 s65=some o73:=h
 rw [ref12_Encode_L3] at h
 conv=>lhs;whnf
 revert h
 refine br ?_ ?_
 refine ix ?_;intro x75
 refine ar (ap (encK .u8) (List.map (encK .u8) s65) s65 ([[AV.int .u8 (IntKind.u8.wrap x75)]]) ([IntKind.u8.wrap x75]:List Int)) ?_
 exact fun h=>cq (hcont71 (IntKind.i64.wrap (s64+1),(s65++([IntKind.u8.wrap x75]:List Int))) (fun _=>0) h)
 intro h;cases sj h
 exact kq (hr72 (fun _=>0))
 refine lrc ?_ ?_
 intro v e;subst e;cases sj h;rfl
 intro x79 a78 e;subst e
 dsimp only at h
 conv=>lhs;whnf
 revert h
 intro h
 refine chk_some2 h ?_;clear h;intro hc81 h
 have hb80:=str_ok (l:=x79) hc81
 try simp only [List.drop_zero,take_map_len]
 refine bif_pos hb80 ?_
 simp only [str_bytes,ls]
 conv=>lhs;whnf
 revert h
 exact rz
 exact rz

end Go.Proofs.Ytejkhpgahnncnaa
end

section
namespace Go.Proofs.Ytejkhpgahnncnaa
open Go.RowKit
set_option linter.unusedVariables false
set_option linter.unusedSimpArgs false

theorem call_all {g : FuncId} {args : List AV} {res : AV} {n : Nat} (h : callN Try.prog HH XT n g args [] = some (res, [])) {w : World} {vs : List Value} (hr : Reps (SAll w) w [] [] args vs) : Calls Try.prog g vs.toArray w fun e w' => ∃ u S', e = .returned u ∧ Below w.heap.size w w' ∧ Rep S' w' [] [] res u := by
  refine (cN_sound XT_sound n false g args [] _ _ h w.heap.size (SAll w) w [] vs (sim_all w) hr).mono ?_
  rintro e w' ⟨u, S', φ', rfl, hu, hs', ht⟩
  have hφ : φ' = [] := List.eq_nil_of_length_eq_zero hs'.len
  subst hφ
  exact ⟨u, S', rfl, ht.below, hu⟩
theorem at_in {s : List UInt8} {i : Nat} (h : i < s.length) : atP s i = (s[i].toNat : Int) := by
  unfold atP
  rw [List.drop_eq_getElem_cons h]
  rfl
theorem at_out {s : List UInt8} {i : Nat} (h : s.length ≤ i) : atP s i = 0 := by
  unfold atP
  rw [List.drop_of_length_le h]
  rfl
set_option maxRecDepth 100000 in
theorem at_abs (n : Nat) (s : List UInt8) (i : Nat) (hs : s.length ≤ 1000000) : callN Try.prog HH XT (n + 1) 46 [.str s, .int .i64 (i : Int)] [] = some (.int .i64 (atP s i), []) := by
  refine callN_eq' Try.func46 (by rfl) rfl rfl (Nat.le_of_ble_eq_true rfl) ?_
  intro call hc
  (conv => lhs; whnf)
  by_cases h : s.length ≤ i
  · have d : decide ((s.length : Int) ≤ (i : Int)) = true := decide_eq_true (by omega)
    simp only [d]
    (conv => lhs; whnf)
    rw [at_out h]
    rfl
  · have d : decide ((s.length : Int) ≤ (i : Int)) = false := decide_eq_false (by omega)
    have hx : idx s (i : Int) = some s[i] := idx_get (by omega)
    simp only [d]
    (conv => lhs; whnf)
    refine bif_pos (idx_in hx) ?_
    simp only [idx_str hx, ls]
    (conv => lhs; whnf)
    have hb : s[i].toNat < 256 := s[i].toNat_lt
    have hw : IntKind.i64.wrap ((s[i].toNat : Nat) : Int) = ((s[i].toNat : Nat) : Int) := wrap64 (by omega)
    simp only [hw]
    rw [at_in (by omega)]
    rfl
theorem at_any (w : World) (s : List UInt8) (j : Int) (i : Nat) (hj : j = (i : Int)) (hs : s.length ≤ 1000000) (hi : i ≤ 1000000) : Calls Try.prog 46 #[.string (bs s), .int .i64 j] w fun e w' => e = .returned (.int .i64 (atP s i)) ∧ Below w.heap.size w w' := by
  subst hj
  refine (call_all (at_abs 10 s i hs) (w := w) (vs := [.string (bs s), .int .i64 (i : Int)]) (.cons _ _ _ _ _ _ (.str _ _ _ (by unfold maxLen; omega)) (.cons _ _ _ _ _ _ (.int _ _ _ _ ?_) (.nil _ _)))).mono ?_
  · rw [Lit.wf, Bool.and_eq_true]
    exact ⟨decide_eq_true (by show -9223372036854775808 ≤ _; omega), decide_eq_true (by show _ ≤ 9223372036854775807; omega)⟩
  · rintro e w' ⟨u, S', rfl, hb, hu⟩
    exact ⟨by rw [hu.int_inv.1], hb⟩
theorem confT_lens (u : UnitS) (s : List UInt8) (t : Nat) (ht : t ≤ u.regs.length) : (confT u s t).pc.length = u.regs.length ∧ (confT u s t).regs.length = u.regs.length ∧ (confT u s t).buf.length = u.regs.length := by
  have hl := confT_len u s t ht
  simp only [confT, List.length_append, List.length_map, hl, List.length_replicate, List.length_drop]
  omega
theorem hdr_at {B : Nat} {w : World} {eT e : TypeId} {size n cap : Nat} {a : Option Addr} {vals : List Value} {rows : List (List Value)} (h : RowsAt B w eT e size (.slice a n cap) vals rows) {t : Nat} (ht : t < rows.length) : ∃ g x, a = some ⟨g, 0, none⟩ ∧ vals[t]? = some x ∧ w.cell? ⟨g, t, none⟩ = some x ∧ w.frozen? ⟨g, t, none⟩ = false := by
  have hv : t < vals.length := by rw [h.len]; exact ht
  rcases owns_split h.own with ⟨_, h0⟩ | ⟨g, cap', ex, e1, _, hh, _⟩
  · omega
  · obtain ⟨rfl, _, _⟩ := Value.slice.inj e1
    refine ⟨g, vals[t], rfl, List.getElem?_eq_getElem hv, ?_, by simp [World.frozen?, hh]⟩
    have h2 : (vals ++ ex)[t]? = some vals[t] := by rw [List.getElem?_append_left hv]; exact List.getElem?_eq_getElem hv
    simp only [World.cell?, hh]
    simpa using h2
theorem int_at {B : Nat} {w : World} {n m cap : Nat} {a : Option Addr} {l : List Int} (h : w.ownsRow B 3 1 (.slice a m cap) n (l.map (Value.int .i64))) {t : Nat} (ht : t < l.length) : ∃ g, a = some ⟨g, 0, none⟩ ∧ (∃ x, w.cell? ⟨g, t, none⟩ = some x) ∧ w.frozen? ⟨g, t, none⟩ = false := by
  obtain rfl := owns_len h (by decide) (k := l.length) (by simp)
  rcases owns_split h with ⟨_, h0⟩ | ⟨g, cap', ex, e1, _, hh, _⟩
  · omega
  · obtain ⟨rfl, _, _⟩ := Value.slice.inj e1
    refine ⟨g, rfl, ⟨.int .i64 l[t], ?_⟩, by simp [World.frozen?, hh]⟩
    have h2 : (l.map (Value.int .i64) ++ ex)[t]? = some (.int .i64 l[t]) := by rw [List.getElem?_append_left (by rw [List.length_map]; exact ht), List.getElem?_map, List.getElem?_eq_getElem ht]; rfl
    simp only [World.cell?, hh]
    simpa using h2

theorem okI_of {x : Int} (h : 0 ≤ x ∧ x < 1000000) : okI x := by
  unfold okI
  rw [Lit.wf, Bool.and_eq_true]
  exact ⟨decide_eq_true (by show -9223372036854775808 ≤ _; omega), decide_eq_true (by show _ ≤ 9223372036854775807; omega)⟩
theorem rowA_ok {s : List UInt8} {i m : Nat} : ∀ x ∈ rowA s i m, okI x := fun x hx => by
  obtain ⟨k, _, rfl⟩ := List.mem_map.1 hx
  have := atP_lt s (i + k)
  exact okI_of (by omega)
theorem thrsA_ok (s : List UInt8) : ∀ (l : List Int) (i : Nat), ∀ t ∈ thrsA s i l, okI t.1 ∧ (∀ x ∈ t.2.1, okI x) ∧ ∀ x ∈ t.2.2, okI x.loc ∧ okI x.n
  | [], _, t, h => by simp [thrsA] at h
  | m :: l, i, t, h => by
    simp only [thrsA, List.mem_cons] at h
    rcases h with rfl | h
    · refine ⟨?_, rowA_ok, fun x hx => ?_⟩
      · have h1 := atP_lt s i
        have h2 := atP_lt s (i + 1)
        exact okI_of (by simp only [thrA]; omega)
      · obtain ⟨k, _, rfl⟩ := List.mem_map.1 hx
        have h1 := atP_lt s (i + 2 + m.toNat + 1 + 2 * k)
        have h2 := atP_lt s (i + 2 + m.toNat + 1 + 2 * k + 1)
        exact ⟨okI_of (by show 0 ≤ atP _ _ ∧ atP _ _ < _; omega), okI_of (by show 0 ≤ atP _ _ ∧ atP _ _ < _; omega)⟩
    · exact thrsA_ok s l _ t h
theorem confP_wf (u : UnitS) (s : List UInt8) : WfC (confP u s).1 := by
  obtain ⟨h1, _⟩ := confT_end u s
  have hk := thrsA_ok s u.regs 0
  rw [h1]
  have e : confT u s u.regs.length = ⟨(thrsA s 0 u.regs).map (·.1), (thrsA s 0 u.regs).map (·.2.1), u.init, (thrsA s 0 u.regs).map (·.2.2)⟩ := by simp [confT]
  rw [e]
  refine ⟨fun x hx => ?_, fun r hr => ?_, rowA_ok, fun b hb => ?_⟩
  · obtain ⟨t, ht, rfl⟩ := List.mem_map.1 hx
    exact (hk t ht).1
  · obtain ⟨t, ht, rfl⟩ := List.mem_map.1 hr
    exact (hk t ht).2.1
  · obtain ⟨t, ht, rfl⟩ := List.mem_map.1 hb
    exact (hk t ht).2.2
theorem tup2_inv {S : Nat → Nat → Prop} {w : World} {hp : Hp} {φ : List Pl} {a : List UInt8} {k : IntKind} {n : Int} {v : Value} (h : Rep S w hp φ (.tup [.str a, .int k n]) v) : v = .tuple #[.string (bs a), .int k n] := by
  obtain ⟨vs, hr, rfl⟩ := h.tup_inv
  cases hr with | cons _ _ _ x _ _ h1 hr =>
  cases hr with | cons _ _ _ y _ _ h2 hr =>
  cases hr
  rw [h1.str_inv.1, h2.int_inv.1]
theorem int_at2 {B : Nat} {w : World} {n m cap g : Nat} {l : List Int} (h : w.ownsRow B 3 1 (.slice (some ⟨g, 0, none⟩) m cap) n (l.map (Value.int .i64))) {t : Nat} (ht : t < l.length) : (∃ x, w.cell? ⟨g, t, none⟩ = some x) ∧ w.frozen? ⟨g, t, none⟩ = false := by
  obtain ⟨g', e, h1, h2⟩ := int_at h ht
  cases e
  exact ⟨h1, h2⟩
theorem hdr_at2 {B : Nat} {w : World} {eT e : TypeId} {size n cap g : Nat} {vals : List Value} {rows : List (List Value)} (h : RowsAt B w eT e size (.slice (some ⟨g, 0, none⟩) n cap) vals rows) {t : Nat} {x : Value} (hx : vals[t]? = some x) : w.cell? ⟨g, t, none⟩ = some x ∧ w.frozen? ⟨g, t, none⟩ = false := by
  obtain ⟨g', x', e, h1, h2, h3⟩ := hdr_at h (t := t) (by rw [← h.len]; exact (List.getElem?_eq_some_iff.1 hx).1)
  cases e
  rw [hx] at h1
  cases h1
  exact ⟨h2, h3⟩

set_option maxRecDepth 100000 in
set_option maxHeartbeats 8000000 in
theorem rdecode_any (w : World) (v : Value) (u : UnitS) (s : List UInt8) (model room : Int) (hv : Rep (SAll w) w [] [] (aU u) v) (hu : rightU u = true) (hs : s.length ≤ 500) (hm : okI model) (hr : okI room) : Calls Try.prog 26 #[v, .string (bs s), .int .i64 model, .int .i64 room] w fun e w' => Below w.heap.size w w' ∧ ∃ vp vr vm vb xr xb, e = .returned (.tuple #[.agg #[vp, vr, vm, vb], .int .i64 (decP u s model room).2]) ∧ CopyIs w.heap.size w' (decP u s model room).1 vp vr vm vb xr xb := by
  have HU := Lib.hid (dec_unitV _ _ _ _ hv)
  have HV := Lib.hid hv
  obtain ⟨u1, u2, u3, u4⟩ := rightU_len hu
  have hx : ∀ i (h : i < u.regs.length), 0 ≤ u.regs[i] ∧ u.regs[i] ≤ 6 := fun i hi => (rightU_thread hu i hi (by omega)).1
  have HX := Lib.hid hx; have HRU := Lib.hid hu
  obtain ⟨n, hn⟩ : ∃ n, u.regs.length = n := ⟨_, rfl⟩
  obtain ⟨ni, hni⟩ : ∃ n, u.init.length = n := ⟨_, rfl⟩
  have hn4 : n ≤ 4 := by omega
  have hi6 : ni ≤ 20 := by omega
  have NN := Lib.hid hn; have NI := Lib.hid hni
  have HM := Lib.hid hm; have HR := Lib.hid hr
  have hidx : ∀ k, k ≤ n → idxT u s k ≤ 2400 := by
    intro k hk
    have h1 := idxT_le s (u.regs.take k) 0 (fun x hx' => by
      obtain ⟨i, hi, rfl⟩ := List.getElem_of_mem (List.mem_of_mem_take hx')
      exact (HX.out i hi).2)
    have h2 : (u.regs.take k).length ≤ 4 := by rw [List.length_take]; omega
    unfold idxT
    omega
  have HI := Lib.hid hidx
  clear hx u1 u2 u3 u4 hn hni hidx hm hr hv
  obtain ⟨_, ⟨vi, vr0, vc, rfl, s1, s2, s3, _, _⟩, e0⟩ : ∃ v', UnitV w v' u ∧ v = v' := ⟨v, HU.out, rfl⟩
  subst e0
  obtain ⟨a1, c1, rfl, _⟩ := ints_view s1
  obtain ⟨a2, c2, rfl, _⟩ := ints_view s2
  obtain ⟨a3, c3, rfl, _⟩ := slices_view s3
  clear s1 s2 s3
  obtain ⟨q1, hq1⟩ : ∃ n, u.init.length = n := ⟨_, rfl⟩
  obtain ⟨q2, hq2⟩ : ∃ n, u.regs.length = n := ⟨_, rfl⟩
  obtain ⟨q3, hq3⟩ : ∃ n, u.code.length = n := ⟨_, rfl⟩
  rw [hq1, hq2, hq3] at HU HV ⊢
  clear hq1 hq2 hq3
  obtain ⟨W0, hW0⟩ : ∃ W, W = (w.alloc (.cells #[.int .i64 u.mod, .slice a1 q1 c1, .slice a2 q2 c2, .slice a3 q3 c3] 25)).alloc (.cells #[.slice none 0 0, .slice none 0 0, .slice none 0 0, .slice none 0 0] 31) := ⟨_, rfl⟩
  have hb0 : Below w.heap.size w W0 := hW0 ▸ ((Below.refl _ _).alloc (Nat.le_refl _) _).alloc (by simp) _
  have hsz : W0.heap.size = w.heap.size + 1 + 1 := by rw [hW0]; simp
  have fu : Fresh W0 w.heap.size (.cells #[.int .i64 u.mod, .slice a1 q1 c1, .slice a2 q2 c2, .slice a3 q3 c3] 25) := by
    rw [hW0]; exact (Fresh.new w _).later ((Below.refl _ _).alloc (Nat.le_refl _) _)
  have fr : Fresh W0 (w.heap.size + 1) (.cells #[.slice none 0 0, .slice none 0 0, .slice none 0 0, .slice none 0 0] 31) := by
    have := heap_alloc_new (w.alloc (.cells #[.int .i64 u.mod, .slice a1 q1 c1, .slice a2 q2 c2, .slice a3 q3 c3] 25)) (.cells #[.slice none 0 0, .slice none 0 0, .slice none 0 0, .slice none 0 0] 31)
    rw [World.size_alloc] at this
    rw [hW0]; exact this
  have FU := Lib.hid fu; have FR := Lib.hid fr; have HB := Lib.hid hb0; have HSZ := Lib.hid hsz
  go_enter Try.func26, Try.ntmps26
  obtain ⟨ee0, ei, ei0, ei1, ei2⟩ : ∃ i, Try.prog.info? 40 = some i ∧ i.zero = some (.agg #[.int .i64 0, .int .i64 0]) ∧ i.size = 2 ∧ i.bytes = 16 := info_of (by kernel_rfl)
  go_upto_region 1 with (fail)
  rw [← hW0]
  have y0 := (fu.open (k := 0) rfl).1; have y1 := (fu.open (k := 1) rfl).1; have y2 := (fu.open (k := 2) rfl).1; have y3 := (fu.open (k := 3) rfl).1
  clear hW0 hb0 hsz fu fr
  go_wp2_with fail
  refine (rstarto_any _ _ u (HU.out.mono HB.out) HRU.out).mono ?_
  rintro e w1 ⟨hb1, vp, vr, vm, vb, xr, xb0, rfl, hO⟩
  clear y0 y1 y2 y3
  obtain ⟨p1, p3, rfl⟩ := ownsR_len hO.pc
  obtain ⟨r1, r3, rfl⟩ := ownsR_len hO.regs.own
  obtain ⟨m1, m3, rfl⟩ := ownsR_len hO.mem
  obtain ⟨d1, d3, rfl⟩ := ownsR_len hO.buf.own
  have hl1 : (startC u).pc.length = n := by simp [startC, NN.out]
  have hl2 : ((startC u).regs.map (List.map (Value.int .i64))).length = n := by simp [startC, NN.out]
  have hl3 : (startC u).mem.length = ni := by simp [startC, NI.out]
  have hl4 : ((startC u).buf.map (List.flatMap entC)).length = n := by simp [startC, NN.out]
  rw [hl1, hl2, hl3, hl4] at hO ⊢
  clear hl1 hl2 hl3 hl4
  obtain ⟨D, hD⟩ : ∃ D, w1.heap.size = D := ⟨_, rfl⟩
  have hS1 : StD w W0 W0.heap.size D (w1.alloc (.cells #[.slice p1 n p3, .slice r1 n r3, .slice m1 ni m3, .slice d1 n d3] 31)) (confT u s 0) (.slice p1 n p3) (.slice r1 n r3) (.slice m1 ni m3) (.slice d1 n d3) xr xb0 := by
    have hA : Below w1.heap.size w1 (w1.alloc (.cells #[.slice p1 n p3, .slice r1 n r3, .slice m1 ni m3, .slice d1 n d3] 31)) := (Below.refl _ _).alloc (Nat.le_refl _) _
    have hbA := hb1.trans (hA.mono hb1.size)
    rw [confT_zero]
    refine ⟨hD ▸ Fresh.new w1 _, HB.out.trans (hbA.mono HB.out.size), fun b hb => hbA.block b hb, HB.out.size, ⟨⟨owns_below hO.pc hA, hO.regs.below hA, owns_below hO.mem hA, hO.buf.below hA⟩, hO.pm, hO.pr⟩⟩
  have HS1 := Lib.hid hS1
  have HBD := Lib.hid (show W0.heap.size ≤ D by have := hb1.size; omega)
  have HD1 := Lib.hid hD
  clear hS1 hO hb1
  go_wp2_with fail
  go_loopw [12, 13] (fun i t wr => ∃ (k : Nat) (xb : List Value), i = .int .i64 (idxT u s k : Int) ∧ t = .int .i64 (k : Int) ∧ k ≤ n ∧ StD w W0 W0.heap.size D wr (confT u s k) (.slice p1 n p3) (.slice r1 n r3) (.slice m1 ni m3) (.slice d1 n d3) xr xb) (fun _ t _ => n - (intOf t).toNat)
  case atStart => exact ⟨0, xb0, rfl, rfl, by omega, HS1.out⟩
  case round =>
    obtain ⟨k, xb, rfl, rfl, hk, hS⟩ := hrel
    have HSA := Lib.hid hS
    have hBr : W0.heap.size ≤ wr.heap.size := by
      have h1 := hS.fd
      unfold Fresh at h1
      have := (Array.getElem?_eq_some_iff.1 h1).1
      have := HBD.out; omega
    have HBR := Lib.hid hBr
    have yp := (hS.fd.open (k := 0) rfl).1
    obtain ⟨L1, L2, L4⟩ := confT_lens u s k (by have := NN.out; omega)
    clear hS hBr
    by_cases hlt : k < n
    · have hkl : k < u.regs.length := by have := NN.out; omega
      obtain ⟨rn, hrn⟩ : ∃ rn, u.regs[k].toNat = rn := ⟨_, rfl⟩
      have hrn6 : rn ≤ 6 := by have := HX.out k hkl; omega
      obtain ⟨i0, hi0⟩ : ∃ i0, idxT u s k = i0 := ⟨_, rfl⟩
      have hi0b : i0 ≤ 2400 := by rw [← hi0]; exact HI.out k (by omega)
      have hSucc := confT_succ u s k hkl
      have hAt := confT_at u s k hkl
      rw [hi0, hrn] at hSucc
      rw [hrn] at hAt
      have HSUCC := Lib.hid hSucc; have HAT := Lib.hid hAt
      rw [hi0]
      clear hSucc hAt hi0 hrn
      obtain ⟨gp, rfl, ⟨xp, hxp⟩, hfp⟩ := int_at HSA.out.own.pc (t := k) (by rw [L1, NN.out]; exact hlt)
      obtain ⟨gr, xt, rfl, hxt, hct, hft⟩ := hdr_at HSA.out.own.regs (t := k) (by rw [List.length_map, L2, NN.out]; exact hlt)
      obtain ⟨gb, xo, rfl, hxo, hcb, hfb⟩ := hdr_at HSA.out.own.buf (t := k) (by rw [List.length_map, L4, NN.out]; exact hlt)
      obtain ⟨mt, hmt⟩ := HSA.out.own.regs.row k xt _ hxt (by rw [List.getElem?_map, HAT.out]; rfl)
      obtain ⟨at1, at3, rfl⟩ := ownsR_len hmt
      obtain rfl : rn = mt := (owns_len hmt (by decide) (k := rn) (by simp)).symm
      have HXT := Lib.hid hxt; have HXO := Lib.hid hxo; have HMT := Lib.hid hmt
      clear hct hft hcb hfb hmt hxt hxo
      have hp8 : wr.drew.cell? ⟨D, 0, none⟩ = some (.slice (some ⟨gp, 0, none⟩) n p3) := yp
      have YP := Lib.hid yp
      go_upto_region 8 with (fail)
      clear yp
      refine wp_region_heldT 12 [(0, true), (1, true), (2, true), (3, true), (4, true), (7, true), (8, true), (9, true), (5, false), (6, true), (10, false), (11, true)] (fun w' => w'.cell? ⟨D, 0, none⟩ = some (.slice (some ⟨gp, 0, none⟩) n p3)) (by kernel_rfl) (by kernel_rfl) hp8 ?_
      clear hp8
      intro wd hwd hbd
      have HSD := Lib.hid (HSA.out.later HBR.out hbd)
      have HPD := Lib.hid (cell_later hbd YP.out)
      have hBd : W0.heap.size ≤ wd.heap.size := Nat.le_trans HBR.out hbd.size
      have HXP := Lib.hid (show wd.cell? ⟨gp, k, none⟩ = some xp from cell_later hbd hxp)
      clear hwd hbd hxp hfp YP
      refine wpHeld_w rfl rfl (.pointer (some ⟨D, 0, none⟩)) (fun w' hS' => ?_) (fun K hK => ?_)
      · have hS1 := hS'
        clear hS'
        go_simp
        all_goals exact wrap64 (by omega)
      go_simp
      refine hK _ ?_
      clear hK K
      refine wpHeld_w rfl rfl (.slice (some ⟨gp, 0, none⟩) n p3) (fun w' hS' => ?_) (fun K hK => ?_)
      · have hS1 := hS'
        clear hS'
        go_simp
        all_goals exact wrap64 (by omega)
      go_simp
      refine hK _ ?_
      clear hK K
      refine wpHeld_w rfl rfl (.int .i64 (k : Int)) (fun w' hS' => ?_) (fun K hK => ?_)
      · have hS1 := hS'
        clear hS'
        go_simp
        all_goals exact wrap64 (by omega)
      go_simp
      refine hK _ ?_
      clear hK K
      refine wpHeld_w rfl rfl (.string (bs s)) (fun w' hS' => ?_) (fun K hK => ?_)
      · have hS1 := hS'
        clear hS'
        go_simp
        all_goals exact wrap64 (by omega)
      go_simp
      refine hK _ ?_
      clear hK K
      refine wpHeld_w rfl rfl (.int .i64 (i0 : Int)) (fun w' hS' => ?_) (fun K hK => ?_)
      · have hS1 := hS'
        clear hS'
        go_simp
        all_goals exact wrap64 (by omega)
      go_simp
      refine hK _ ?_
      clear hK K
      refine wpHeld_w rfl rfl (.string (bs s)) (fun w' hS' => ?_) (fun K hK => ?_)
      · have hS1 := hS'
        clear hS'
        go_simp
        all_goals exact wrap64 (by omega)
      go_simp
      refine hK _ ?_
      clear hK K
      refine wpHeld_w rfl rfl (.int .i64 (i0 : Int)) (fun w' hS' => ?_) (fun K hK => ?_)
      · have hS1 := hS'
        clear hS'
        go_simp
        all_goals exact wrap64 (by omega)
      go_simp
      refine hK _ ?_
      clear hK K
      refine wpHeld_w rfl rfl (.int .i64 ((i0 : Int) + 1)) (fun w' hS' => ?_) (fun K hK => ?_)
      · have hS1 := hS'
        clear hS'
        go_simp
        all_goals exact wrap64 (by omega)
      go_simp
      refine hK _ ?_
      clear hK K
      have hA0 := atP_lt s i0; have hA1 := atP_lt s (i0 + 1)
      refine wpHeld_s rfl rfl (fun K hK => ?_)
      go_simp
      refine (at_any wd s _ i0 rfl (by omega) (by omega)).mono ?_
      rintro e w3 ⟨rfl, hb3⟩
      refine hK _ _ (cell_later hb3 HPD.out) ?_
      clear hK K
      have HSE := Lib.hid (HSD.out.later hBd hb3)
      have HPE := Lib.hid (cell_later hb3 HPD.out)
      have hB3 : W0.heap.size ≤ w3.heap.size := Nat.le_trans hBd hb3.size
      clear hb3 HSD HPD HXP hBd wd
      refine wpHeld_w rfl rfl (.int .i64 (256 * atP s i0)) (fun w' hS' => ?_) (fun K hK => ?_)
      · have hS1 := hS'
        clear hS'
        go_simp
        all_goals exact wrap64 (by omega)
      go_simp
      refine hK _ ?_
      clear hK K
      refine wpHeld_s rfl rfl (fun K hK => ?_)
      go_simp
      refine (at_any w3 s _ (i0 + 1) (by simp) (by omega) (by omega)).mono ?_
      rintro e w4 ⟨rfl, hb4⟩
      refine hK _ _ (cell_later hb4 HPE.out) ?_
      clear hK K
      have HSF := Lib.hid (HSE.out.later hB3 hb4)
      have HB4 := Lib.hid (Nat.le_trans hB3 hb4.size)
      clear hb4 HSE HPE hB3 w3
      refine wpHeld_w rfl rfl (.int .i64 (256 * atP s i0 + atP s (i0 + 1))) (fun w' hS' => ?_) (fun K hK => ?_)
      · have hS1 := hS'
        clear hS'
        go_simp
        all_goals exact wrap64 (by omega)
      go_simp
      refine hK _ ?_
      clear hK K
      refine wpHeld_nil ?_
      simp only [List.drop_succ_cons, List.drop_zero]
      obtain ⟨⟨xq, hxq⟩, hfq⟩ := int_at2 HSF.out.own.pc (t := k) (by rw [L1, NN.out]; exact hlt)
      have hP := HSF.out.setPc (g := gp) (k := k) rfl (by rw [L1, NN.out]; exact hlt) (256 * atP s i0 + atP s (i0 + 1))
      have HP := Lib.hid hP
      have hB5 : W0.heap.size ≤ (w4.setCell ⟨gp, k, none⟩ (.int .i64 (256 * atP s i0 + atP s (i0 + 1)))).heap.size := by rw [World.size_setCell]; exact HB4.out
      clear hP
      go_upto_region 9 with (fail)
      clear hxq hfq
      obtain ⟨w5, hw5⟩ : ∃ w5, w4.setCell ⟨gp, k, none⟩ (.int .i64 (256 * atP s i0 + atP s (i0 + 1))) = w5 := ⟨_, rfl⟩
      rw [hw5] at HP hB5 ⊢
      have HB5 := Lib.hid hB5
      clear hw5 HSF HB4 hB5 xq w4
      obtain ⟨cc, hcc⟩ : ∃ cc, ({ confT u s k with pc := (confT u s k).pc.set k (256 * atP s i0 + atP s (i0 + 1)) } : ConfS) = cc := ⟨_, rfl⟩
      have hcr : cc.regs = (confT u s k).regs := by rw [← hcc]
      have hcb : cc.buf = (confT u s k).buf := by rw [← hcc]
      have HCC := Lib.hid hcc; have HCR := Lib.hid hcr; have HCB := Lib.hid hcb
      rw [hcc] at HP
      have hP0 : StD w W0 W0.heap.size D w5 { cc with regs := cc.regs.set k (rowA s (i0 + 2) 0 ++ List.replicate (rn - 0) 0) } (.slice (some ⟨gp, 0, none⟩) n p3) (.slice (some ⟨gr, 0, none⟩) n r3) (.slice m1 ni m3) (.slice (some ⟨gb, 0, none⟩) n d3) xr xb := by
        have : cc.regs.set k (rowA s (i0 + 2) 0 ++ List.replicate (rn - 0) 0) = cc.regs := by
          rw [hcr]
          obtain ⟨h1, h2⟩ := List.getElem?_eq_some_iff.1 HAT.out
          have e : (rowA s (i0 + 2) 0 ++ List.replicate (rn - 0) 0) = List.replicate rn 0 := by simp [rowA]
          rw [e, ← h2]
          exact List.set_getElem_self h1
        rw [this]
        exact HP.out
      have HP0 := Lib.hid hP0
      clear hcc hcr hcb hP0 HP
      go_wp2_with fail
      go_loopw [12, 14] (fun i kk wr => ∃ j : Nat, i = .int .i64 ((i0 + 2 + j : Nat) : Int) ∧ kk = .int .i64 (j : Int) ∧ j ≤ rn ∧ W0.heap.size ≤ wr.heap.size ∧ StD w W0 W0.heap.size D wr { cc with regs := cc.regs.set k (rowA s (i0 + 2) j ++ List.replicate (rn - j) 0) } (.slice (some ⟨gp, 0, none⟩) n p3) (.slice (some ⟨gr, 0, none⟩) n r3) (.slice m1 ni m3) (.slice (some ⟨gb, 0, none⟩) n d3) xr xb) (fun _ kk _ => rn - (intOf kk).toNat)
      case atStart => exact ⟨0, by go_num, rfl, by omega, HB5.out, HP0.out⟩
      case round =>
        obtain ⟨j, rfl, rfl, hj, hBj, hSj⟩ := hrel
        have HSJ := Lib.hid hSj; have HBJ := Lib.hid hBj
        clear hSj hBj
        obtain ⟨Rj, hRj⟩ : ∃ Rj, rowA s (i0 + 2) j ++ List.replicate (rn - j) 0 = Rj := ⟨_, rfl⟩
        have hRl : Rj.length = rn := by rw [← hRj, List.length_append, rowA_len, List.length_replicate]; omega
        have HRJ := Lib.hid hRj
        rw [hRj] at HSJ
        clear hRj
        have hkc : k < cc.regs.length := by rw [HCR.out, L2, NN.out]; exact hlt
        have hRk : (cc.regs.set k Rj)[k]? = some Rj := List.getElem?_set_self hkc
        have HRK := Lib.hid hRk
        have y1 := (HSJ.out.fd.open (k := 1) rfl).1
        obtain ⟨yh, _⟩ := hdr_at2 HSJ.out.own.regs HXT.out
        clear hRk
        by_cases hjl : j < rn
        · go_upto_region 13 with (fail)
          have h13 : wr.drew.cell? ⟨D, 1, none⟩ = some (.slice (some ⟨gr, 0, none⟩) n r3) ∧ wr.drew.cell? ⟨gr, k, none⟩ = some (.slice at1 rn at3) := ⟨y1, yh⟩
          have HY := Lib.hid (show wr.cell? ⟨D, 1, none⟩ = some (.slice (some ⟨gr, 0, none⟩) n r3) ∧ wr.cell? ⟨gr, k, none⟩ = some (.slice at1 rn at3) from ⟨y1, yh⟩)
          clear y1 yh
          refine wp_region_heldT 9 [(0, true), (1, true), (2, true), (3, true), (4, true), (5, true), (6, true), (7, true), (8, false)] (fun w' => w'.cell? ⟨D, 1, none⟩ = some (.slice (some ⟨gr, 0, none⟩) n r3) ∧ w'.cell? ⟨gr, k, none⟩ = some (.slice at1 rn at3)) (by kernel_rfl) (by kernel_rfl) h13 ?_
          clear h13
          intro wd hwd hbd
          have HSD := Lib.hid (HSJ.out.later HBJ.out hbd)
          have HYD := Lib.hid (show wd.cell? ⟨D, 1, none⟩ = some (.slice (some ⟨gr, 0, none⟩) n r3) ∧ wd.cell? ⟨gr, k, none⟩ = some (.slice at1 rn at3) from ⟨cell_later hbd HY.out.1, cell_later hbd HY.out.2⟩)
          have hBd : W0.heap.size ≤ wd.heap.size := Nat.le_trans HBJ.out hbd.size
          clear hwd hbd HY
          refine wpHeld_w rfl rfl (.pointer (some ⟨D, 1, none⟩)) (fun w' hS' => ?_) (fun K hK => ?_)
          · obtain ⟨hS1, hS2⟩ := hS'
            go_simp
          go_simp
          refine hK _ ?_
          clear hK K
          refine wpHeld_w rfl rfl (.slice (some ⟨gr, 0, none⟩) n r3) (fun w' hS' => ?_) (fun K hK => ?_)
          · obtain ⟨hS1, hS2⟩ := hS'
            go_simp
          go_simp
          refine hK _ ?_
          clear hK K
          refine wpHeld_w rfl rfl (.int .i64 (k : Int)) (fun w' hS' => ?_) (fun K hK => ?_)
          · obtain ⟨hS1, hS2⟩ := hS'
            go_simp
          go_simp
          refine hK _ ?_
          clear hK K
          refine wpHeld_w rfl rfl (.pointer (some ⟨gr, k, none⟩)) (fun w' hS' => ?_) (fun K hK => ?_)
          · obtain ⟨hS1, hS2⟩ := hS'
            go_simp
          go_simp
          refine hK _ ?_
          clear hK K
          refine wpHeld_w rfl rfl (.slice at1 rn at3) (fun w' hS' => ?_) (fun K hK => ?_)
          · obtain ⟨hS1, hS2⟩ := hS'
            go_simp
          go_simp
          refine hK _ ?_
          clear hK K
          refine wpHeld_w rfl rfl (.int .i64 (j : Int)) (fun w' hS' => ?_) (fun K hK => ?_)
          · obtain ⟨hS1, hS2⟩ := hS'
            go_simp
          go_simp
          refine hK _ ?_
          clear hK K
          refine wpHeld_w rfl rfl (.string (bs s)) (fun w' hS' => ?_) (fun K hK => ?_)
          · obtain ⟨hS1, hS2⟩ := hS'
            go_simp
          go_simp
          refine hK _ ?_
          clear hK K
          refine wpHeld_w rfl rfl (.int .i64 ((i0 + 2 + j : Nat) : Int)) (fun w' hS' => ?_) (fun K hK => ?_)
          · obtain ⟨hS1, hS2⟩ := hS'
            go_simp
          go_simp
          refine hK _ ?_
          clear hK K
          refine wpHeld_s rfl rfl (fun K hK => ?_)
          go_simp
          refine (at_any wd s _ (i0 + 2 + j) (by simp) (by omega) (by omega)).mono ?_
          rintro e w7 ⟨rfl, hb7⟩
          refine hK _ _ ⟨cell_later hb7 HYD.out.1, cell_later hb7 HYD.out.2⟩ ?_
          clear hK K
          have HS7 := Lib.hid (HSD.out.later hBd hb7)
          have HB7 := Lib.hid (Nat.le_trans hBd hb7.size)
          clear hb7 HSD HYD hBd wd
          refine wpHeld_nil ?_
          simp only [List.drop_succ_cons, List.drop_zero]
          obtain ⟨m7, hm7⟩ := HS7.out.own.regs.row k _ _ HXT.out (by rw [List.getElem?_map, HRK.out]; rfl)
          obtain ⟨gt, hgt, ⟨xq, hxq⟩, hfq⟩ := int_at hm7 (t := j) (by rw [hRl]; exact hjl)
          subst hgt
          have hP7 := HS7.out.setReg (g := gt) HXT.out HRK.out rfl (show j < Rj.length by rw [hRl]; exact hjl) (atP s (i0 + 2 + j))
          have hB8 : W0.heap.size ≤ (w7.setCell ⟨gt, j, none⟩ (.int .i64 (atP s (i0 + 2 + j)))).heap.size := by rw [World.size_setCell]; exact HB7.out
          have hRs : Rj.set j (atP s (i0 + 2 + j)) = rowA s (i0 + 2) (j + 1) ++ List.replicate (rn - (j + 1)) 0 := by
            rw [← HRJ.out, show rn - j = (rn - (j + 1)) + 1 by omega, List.replicate_succ, set_mid (rowA_len _ _ _), rowA_succ, List.append_assoc]
            rfl
          rw [hRs] at hP7
          have HP7 := Lib.hid (show StD w W0 W0.heap.size D _ { cc with regs := cc.regs.set k (rowA s (i0 + 2) (j + 1) ++ List.replicate (rn - (j + 1)) 0) } (.slice (some ⟨gp, 0, none⟩) n p3) (.slice (some ⟨gr, 0, none⟩) n r3) (.slice m1 ni m3) (.slice (some ⟨gb, 0, none⟩) n d3) xr xb by
            have e : (cc.regs.set k Rj).set k (rowA s (i0 + 2) (j + 1) ++ List.replicate (rn - (j + 1)) 0) = cc.regs.set k (rowA s (i0 + 2) (j + 1) ++ List.replicate (rn - (j + 1)) 0) := List.set_set ..
            rw [← e]; exact hP7)
          clear hP7 hm7 hRs
          go_wp2_with fail
          go_round
          case rel => exact ⟨j + 1, by go_num, by go_num, by omega, hB8, HP7.out⟩
          case measure => simp [intOf]; omega
        · have hjn : rn = j := by omega
          subst hjn
          go_wp2_with fail
          clear y1 yh hjl
          have hA2 := atP_lt s (i0 + 2 + rn)
          refine (at_any wr s _ (i0 + 2 + rn) (by simp) (by omega) (by omega)).mono ?_
          rintro e w6 ⟨rfl, hb6⟩
          obtain ⟨c2, hc2⟩ : ∃ c2, ({ cc with regs := cc.regs.set k (rowA s (i0 + 2) rn) } : ConfS) = c2 := ⟨_, rfl⟩
          have h6 := HSJ.out.later HBJ.out hb6
          rw [← HRJ.out, Nat.sub_self, List.replicate_zero, List.append_nil, hc2] at h6
          have HS6 := Lib.hid h6; have HB6 := Lib.hid (Nat.le_trans HBJ.out hb6.size); have HC2 := Lib.hid hc2
          clear h6 hb6 HSJ HBJ HRJ HRK hc2 hj hRl HP0
          obtain ⟨ne, hne⟩ : ∃ ne : Nat, atP s (i0 + 2 + rn) = (ne : Int) := ⟨(atP s (i0 + 2 + rn)).toNat, by omega⟩
          have hne2 : ne < 256 := by omega
          have HNE := Lib.hid hne
          rw [hne]
          clear hne hA2 hA0 hA1
          obtain ⟨i5, hi5⟩ : ∃ i5, i0 + 2 + rn + 1 = i5 := ⟨_, rfl⟩
          have HI5 := Lib.hid hi5
          go_wp2_with fail
          go_loopw [12, 16, 17] (fun i b kk wr => ∃ (j : Nat), i = .int .i64 ((i5 + 2 * j : Nat) : Int) ∧ kk = .int .i64 (j : Int) ∧ j ≤ ne ∧ Below w6.heap.size w6 wr ∧ wr.ownsRow w6.heap.size 40 2 b j ((entsA s i5 j).flatMap entC)) (fun _ _ kk _ => ne - (intOf kk).toNat)
          case atStart => exact ⟨0, by rw [← hi5]; go_num, rfl, by omega, Below.refl _ _, World.ownsRow_nil _ _ _ _⟩
          case round =>
            rename_i b
            obtain ⟨j, rfl, rfl, hj, hbj, hoj⟩ := hrel
            have HBJ := Lib.hid hbj; have HOJ := Lib.hid hoj
            have hszj := hbj.size
            clear hbj hoj
            by_cases hjl : j < ne
            · have hA3 := atP_lt s (i5 + 2 * j); have hA4 := atP_lt s (i5 + 2 * j + 1)
              have hb5 : i5 ≤ 2410 := by omega
              go_wp2_with fail
              refine (at_any wr s _ (i5 + 2 * j) (by simp) (by omega) (by omega)).mono ?_
              rintro e wa ⟨rfl, hba⟩
              go_wp2_with fail
              refine (at_any wa s _ (i5 + 2 * j + 1) (by simp) (by omega) (by omega)).mono ?_
              rintro e wb ⟨rfl, hbb⟩
              have hszb : w6.heap.size ≤ wb.heap.size := Nat.le_trans hszj (Nat.le_trans hba.size hbb.size)
              have hbn := (HBJ.out.trans (hba.mono hszj)).trans (hbb.mono (Nat.le_trans hszj hba.size))
              have hob := owns_below (owns_below (owns_below HOJ.out hba) hbb) ((Below.refl _ _).alloc (Nat.le_refl _) (.cells #[.int .i64 (atP s (i5 + 2 * j)), .int .i64 (atP s (i5 + 2 * j + 1))] 40))
              have hszc : (wb.alloc (.cells #[.int .i64 (atP s (i5 + 2 * j)), .int .i64 (atP s (i5 + 2 * j + 1))] 40)).heap.size = wb.heap.size + 1 := World.size_alloc _ _
              have HOB := Lib.hid hob; have HBN := Lib.hid hbn; have HSZC := Lib.hid hszc
              clear hob hbn hba hbb hszc
              go_wp2_with (at_builtin; refine wpList_append_lies _ rfl _ _ 38 rfl w6.heap.size 40 ee0 _ 2 16 Try.underlying38 ei ei0 ei1 ei2 rfl (by decide) _ j ((entsA s i5 j).flatMap entC) rfl HOB.out _ 1 1 [.int .i64 (atP s (i5 + 2 * j)), .int .i64 (atP s (i5 + 2 * j + 1))] rfl rfl (World.news_of_block (heap_alloc_new wb _)) (by intro x hx; simp at hx; rcases hx with rfl | rfl <;> rfl) (by decide) ?a1 ?a2 ?a3 _ rfl ?_)
              case a1 => unfold maxLen; omega
              case a2 => omega
              case a3 => rw [HSZC.out]; omega
              intro g9 cp9 wc hwc hgrc hlcc hltc
              have hbc := (HBN.out.alloc hszb (.cells #[.int .i64 (atP s (i5 + 2 * j)), .int .i64 (atP s (i5 + 2 * j + 1))] 40)).grown hgrc (by rw [HSZC.out]; omega) fun b hb => (ownsR_block HOB.out hb).1
              have hoc : wc.ownsRow w6.heap.size 40 2 (.slice (some ⟨g9, 0, none⟩) (j + 1) cp9) (j + 1) ((entsA s i5 (j + 1)).flatMap entC) := by
                rw [entsA_succ, List.flatMap_append]; exact hwc
              have HBC := Lib.hid hbc; have HOC := Lib.hid hoc
              clear hbc hoc hwc hgrc hlcc hltc
              go_wp2_with fail
              go_round
              case rel => exact ⟨j + 1, by go_num, by go_num, by omega, HBC.out, HOC.out⟩
              case measure => simp [intOf]; omega
            · have hjn : ne = j := by omega
              subst hjn
              obtain ⟨b1, b3, rfl⟩ := ownsR_len HOJ.out
              have y4 := ((HS6.out.later HB6.out HBJ.out).fd.open (k := 3) rfl).1
              obtain ⟨yb, yb'⟩ := hdr_at2 (HS6.out.later HB6.out HBJ.out).own.buf HXO.out
              have hPB := HS6.out.putBuf HB6.out HBJ.out HXO.out HOJ.out (g := gb) rfl
              have hcE : ({ c2 with buf := c2.buf.set k (entsA s i5 ne) } : ConfS) = confT u s (k + 1) := by
                rw [← HC2.out, ← HCC.out, HSUCC.out.1, ← HI5.out]
                simp only [thrA, HNE.out, Int.toNat_natCast]
                rfl
              have hiE : idxT u s (k + 1) = i5 + 2 * ne := by
                rw [HSUCC.out.2, ← HI5.out]
                simp only [nextA, HNE.out, Int.toNat_natCast]
              rw [hcE] at hPB
              have HPB := Lib.hid hPB; have HIE := Lib.hid hiE
              clear hPB hcE hiE
              go_wp2_with fail
              go_round
              case rel => exact ⟨k + 1, _, by rw [HIE.out], by go_num, by omega, HPB.out⟩
              case measure => simp [intOf]; omega
    · have hkn : n = k := by omega
      subst hkn
      obtain ⟨i9, hi9⟩ : ∃ i9, idxT u s n = i9 := ⟨_, rfl⟩
      have hi9b : i9 ≤ 2400 := by rw [← hi9]; exact HI.out n (by omega)
      have HI9 := Lib.hid hi9
      rw [hi9]
      clear hi9 L1 L2 L4 hlt
      have hP0 : StD w W0 W0.heap.size D wr { confT u s n with mem := rowA s i9 0 ++ u.init.drop 0 } (.slice p1 n p3) (.slice r1 n r3) (.slice m1 ni m3) (.slice d1 n d3) xr xb := by
        have : rowA s i9 0 ++ u.init.drop 0 = (confT u s n).mem := by simp [rowA, confT]
        rw [this]
        exact HSA.out
      have HP0 := Lib.hid hP0
      clear hP0
      go_wp2_with fail
      go_loopw [12, 18] (fun i kk wr => ∃ j : Nat, i = .int .i64 ((i9 + j : Nat) : Int) ∧ kk = .int .i64 (j : Int) ∧ j ≤ ni ∧ W0.heap.size ≤ wr.heap.size ∧ StD w W0 W0.heap.size D wr { confT u s n with mem := rowA s i9 j ++ u.init.drop j } (.slice p1 n p3) (.slice r1 n r3) (.slice m1 ni m3) (.slice d1 n d3) xr xb) (fun _ kk _ => ni - (intOf kk).toNat)
      case atStart => exact ⟨0, by go_num, rfl, by omega, HBR.out, HP0.out⟩
      case round =>
        rename_i wr4
        clear yp
        obtain ⟨j, rfl, rfl, hj, hBj, hSj⟩ := hrel
        have HSJ := Lib.hid hSj; have HBJ := Lib.hid hBj
        clear hSj hBj
        have y2 := (HSJ.out.fd.open (k := 2) rfl).1
        have hml : (rowA s i9 j ++ u.init.drop j).length = ni := by rw [List.length_append, rowA_len, List.length_drop, NI.out]; omega
        by_cases hjl : j < ni
        · go_upto_region 27 with (fail)
          have h27 : wr.drew.cell? ⟨D, 2, none⟩ = some (.slice m1 ni m3) := y2
          have HY2 := Lib.hid y2
          clear y2
          refine wp_region_heldT 6 [(0, true), (1, true), (2, true), (3, true), (4, true), (5, false)] (fun w' => w'.cell? ⟨D, 2, none⟩ = some (.slice m1 ni m3)) (by kernel_rfl) (by kernel_rfl) h27 ?_
          clear h27
          intro wd hwd hbd
          have HSD := Lib.hid (HSJ.out.later HBJ.out hbd)
          have HYD := Lib.hid (cell_later hbd HY2.out)
          have hBd : W0.heap.size ≤ wd.heap.size := Nat.le_trans HBJ.out hbd.size
          clear hwd hbd HY2
          refine wpHeld_w rfl rfl (.pointer (some ⟨D, 2, none⟩)) (fun w' hS' => ?_) (fun K hK => ?_)
          · have hS1 := hS'
            clear hS'
            go_simp
          go_simp
          refine hK _ ?_
          clear hK K
          refine wpHeld_w rfl rfl (.slice m1 ni m3) (fun w' hS' => ?_) (fun K hK => ?_)
          · have hS1 := hS'
            clear hS'
            go_simp
          go_simp
          refine hK _ ?_
          clear hK K
          refine wpHeld_w rfl rfl (.int .i64 (j : Int)) (fun w' hS' => ?_) (fun K hK => ?_)
          · have hS1 := hS'
            clear hS'
            go_simp
          go_simp
          refine hK _ ?_
          clear hK K
          refine wpHeld_w rfl rfl (.string (bs s)) (fun w' hS' => ?_) (fun K hK => ?_)
          · have hS1 := hS'
            clear hS'
            go_simp
          go_simp
          refine hK _ ?_
          clear hK K
          refine wpHeld_w rfl rfl (.int .i64 ((i9 + j : Nat) : Int)) (fun w' hS' => ?_) (fun K hK => ?_)
          · have hS1 := hS'
            clear hS'
            go_simp
          go_simp
          refine hK _ ?_
          clear hK K
          refine wpHeld_s rfl rfl (fun K hK => ?_)
          go_simp
          refine (at_any wd s _ (i9 + j) (by simp) (by omega) (by omega)).mono ?_
          rintro e w7 ⟨rfl, hb7⟩
          refine hK _ _ (cell_later hb7 HYD.out) ?_
          clear hK K
          have HS7 := Lib.hid (HSD.out.later hBd hb7)
          have HB7 := Lib.hid (Nat.le_trans hBd hb7.size)
          clear hb7 HSD HYD hBd wd
          refine wpHeld_nil ?_
          simp only [List.drop_succ_cons, List.drop_zero]
          obtain ⟨gm, hgm, ⟨xq, hxq⟩, hfq⟩ := int_at HS7.out.own.mem (t := j) (by rw [hml]; exact hjl)
          subst hgm
          have hP7 := HS7.out.setMem (g := gm) (k := j) rfl (by rw [hml]; exact hjl) (atP s (i9 + j))
          have hB8 : W0.heap.size ≤ (w7.setCell ⟨gm, j, none⟩ (.int .i64 (atP s (i9 + j)))).heap.size := by rw [World.size_setCell]; exact HB7.out
          have hRs : (rowA s i9 j ++ u.init.drop j).set j (atP s (i9 + j)) = rowA s i9 (j + 1) ++ u.init.drop (j + 1) := by
            rw [List.drop_eq_getElem_cons (by rw [NI.out]; exact hjl), set_mid (rowA_len _ _ _), rowA_succ, List.append_assoc]
            rfl
          have HP7 := Lib.hid (show StD w W0 W0.heap.size D _ { confT u s n with mem := rowA s i9 (j + 1) ++ u.init.drop (j + 1) } (.slice p1 n p3) (.slice r1 n r3) (.slice (some ⟨gm, 0, none⟩) ni m3) (.slice d1 n d3) xr xb by rw [← hRs]; exact hP7)
          clear hP7 hRs
          go_wp2_with fail
          go_round
          case rel => exact ⟨j + 1, by go_num, by go_num, by omega, hB8, HP7.out⟩
          case measure => simp [intOf]; omega
        · have hjn : ni = j := by omega
          subst hjn
          obtain ⟨cE, hcE⟩ : ∃ cE, (confP u s).1 = cE := ⟨_, rfl⟩
          have hE := HSJ.out
          have hEnd := (confT_end u s).1
          rw [NN.out, NI.out, HI9.out, hcE] at hEnd
          rw [List.drop_of_length_le (by rw [NI.out]; exact Nat.le_refl _), List.append_nil, ← hEnd] at hE
          have HE := Lib.hid hE
          have hwf : WfC cE := hcE ▸ confP_wf u s
          have hlt : LightC cE := hcE ▸ confP_light u HRU.out s
          have hlo : ∀ b, b < W0.heap.size → wr.heap[b]? = W0.heap[b]? := hE.low
          have fu : Fresh wr w.heap.size (.cells #[.int .i64 u.mod, .slice a1 q1 c1, .slice a2 q2 c2, .slice a3 q3 c3] 25) := (hlo _ (by have := HSZ.out; omega)).trans FU.out
          have fr : Fresh wr (w.heap.size + 1) (.cells #[.slice none 0 0, .slice none 0 0, .slice none 0 0, .slice none 0 0] 31) := (hlo _ (by have := HSZ.out; omega)).trans FR.out
          have y0 := (fu.open (k := 0) rfl).1; have y1 := (fu.open (k := 1) rfl).1; have y3 := (fu.open (k := 2) rfl).1; have y4 := (fu.open (k := 3) rfl).1
          have g0 := (hE.fd.open (k := 0) rfl).1; have g1 := (hE.fd.open (k := 1) rfl).1; have g3 := (hE.fd.open (k := 3) rfl).1
          have hRU : Rep (SAll wr) wr [] [] (aU u) (.agg #[.int .i64 u.mod, .slice a1 q1 c1, .slice a2 q2 c2, .slice a3 q3 c3]) := Rep.mono (SAll.ext hE.bel) HV.out (.refl _ _)
          have hRC : Rep (SAll wr) wr [] [] (aC cE) (.agg #[.slice p1 n p3, .slice r1 n r3, .slice m1 ni m3, .slice d1 n d3]) := hE.own.toCopyIs.rep hwf fun g cs E o h1 h2 h3 h4 => ⟨_, stay_at h2 (v := cs[o]) (by simp [World.cell?, h2, h4])⟩
          have F := call_all (ok_ref12_Encode (rencode_m 1000 u cE model room hlt (by omega))) (w := wr) (vs := [.agg #[.int .i64 u.mod, .slice a1 q1 c1, .slice a2 q2 c2, .slice a3 q3 c3], .agg #[.slice p1 n p3, .slice r1 n r3, .slice m1 ni m3, .slice d1 n d3], .int .i64 model, .int .i64 room]) (.cons _ _ _ _ _ _ hRU (.cons _ _ _ _ _ _ hRC (.cons _ _ _ _ _ _ (.int _ _ _ _ HM.out) (.cons _ _ _ _ _ _ (.int _ _ _ _ HR.out) (.nil _ _)))))
          have FE := Lib.hid F
          have FRR := Lib.hid fr; have HCE := Lib.hid hcE
          clear F hRU hRC hE hlo fu fr hEnd hml hwf hlt hjl hj hcE
          go_wp2_with fail
          refine FE.out.mono ?_
          rintro e wE ⟨x, S', rfl, hbE, hx⟩
          have frE := FRR.out.later hbE
          obtain ⟨h0, h0'⟩ := frE.open (k := 0) rfl; obtain ⟨h1, h1'⟩ := frE.open (k := 1) rfl; obtain ⟨h2, h2'⟩ := frE.open (k := 2) rfl; obtain ⟨h3, h3'⟩ := frE.open (k := 3) rfl
          have hEE := HE.out.later HBJ.out hbE
          have k0 := (hEE.fd.open (k := 0) rfl).1; have k1 := (hEE.fd.open (k := 1) rfl).1; have k2 := (hEE.fd.open (k := 2) rfl).1; have k3 := (hEE.fd.open (k := 3) rfl).1
          have FRE := Lib.hid frE; have HEE := Lib.hid hEE
          have hD := dec_r u s model room HRU.out
          rw [HCE.out] at hD
          have HDD := Lib.hid hD
          clear y0 y1 y3 y4 g0 g1 g3 y2 frE hEE hbE FE FRR hD
          have zer : ∀ w9 : World, (∀ b, b ≠ w.heap.size + 1 → w9.heap[b]? = wE.heap[b]?) → Fresh w9 (w.heap.size + 1) (.cells #[.slice none 0 0, .slice none 0 0, .slice none 0 0, .slice none 0 0] 31) → CopyIs w.heap.size w9 zeroC (.slice none 0 0) (.slice none 0 0) (.slice none 0 0) (.slice none 0 0) [] [] := fun _ _ _ => ⟨World.ownsRow_nil _ _ _ _, RowsAt.nil _ _ _ _ _, World.ownsRow_nil _ _ _ _, RowsAt.nil _ _ _ _ _⟩
          have ZER := Lib.hid zer
          clear zer
          cases hb : rightU u && confOk u cE model room with
          | false =>
            rw [hb] at hx
            obtain rfl := tup2_inv hx
            clear hx
            rw [HRU.out, Bool.true_and] at hb
            go_wp2_with fail
            obtain ⟨w9, hw9⟩ : ∃ w9, ((((wE.setCell ⟨w.heap.size + 1, 0, none⟩ (.slice none 0 0)).setCell ⟨w.heap.size + 1, 1, none⟩ (.slice none 0 0)).setCell ⟨w.heap.size + 1, 2, none⟩ (.slice none 0 0)).setCell ⟨w.heap.size + 1, 3, none⟩ (.slice none 0 0)) = w9 := ⟨_, rfl⟩
            have hG : Fresh w9 (w.heap.size + 1) (.cells #[.slice none 0 0, .slice none 0 0, .slice none 0 0, .slice none 0 0] 31) := by
              rw [← hw9]; exact (((FRE.out.put (k := 0) _).put (k := 1) _).put (k := 2) _).put (k := 3) _
            have hS9 : ∀ b, b ≠ w.heap.size + 1 → w9.heap[b]? = wE.heap[b]? := fun b hb => by
              rw [← hw9]
              exact (Below.heap_setCell _ ⟨w.heap.size + 1, 3, none⟩ _ b hb).trans ((Below.heap_setCell _ ⟨w.heap.size + 1, 2, none⟩ _ b hb).trans ((Below.heap_setCell _ ⟨w.heap.size + 1, 1, none⟩ _ b hb).trans (Below.heap_setCell _ ⟨w.heap.size + 1, 0, none⟩ _ b hb)))
            have hB9 : Below w.heap.size w w9 := by
              rw [← hw9]
              exact (((HEE.out.bel.setCell (p := ⟨w.heap.size + 1, 0, none⟩) (by show _ ≤ w.heap.size + 1; omega) _).setCell (p := ⟨w.heap.size + 1, 1, none⟩) (by show _ ≤ w.heap.size + 1; omega) _).setCell (p := ⟨w.heap.size + 1, 2, none⟩) (by show _ ≤ w.heap.size + 1; omega) _).setCell (p := ⟨w.heap.size + 1, 3, none⟩) (by show _ ≤ w.heap.size + 1; omega) _
            rw [hw9]
            clear hw9 h0 h0' h1 h1' h2 h2' h3 h3' k0 k1 k2 k3
            have e0 := (hG.open (k := 0) rfl).1; have e1 := (hG.open (k := 1) rfl).1; have e2 := (hG.open (k := 2) rfl).1; have e3 := (hG.open (k := 3) rfl).1
            have hz : decP u s model room = (zeroC, 8) := by rw [HDD.out, hb]; rfl
            refine bodyPost_ret (v := .tuple #[.agg #[.slice none 0 0, .slice none 0 0, .slice none 0 0, .slice none 0 0], .int .i64 8]) (by simp [results, Try.results26, go_sem, e0, e1, e2, e3]; try rfl) rfl ?_
            rw [hz]
            exact ⟨hB9, _, _, _, _, [], [], rfl, ZER.out w9 hS9 hG⟩
          | true =>
            rw [hb] at hx
            obtain rfl := tup2_inv hx
            clear hx
            rw [HRU.out, Bool.true_and] at hb
            by_cases hcm : encB cE = s
            · rw [hcm]
              go_wp2_with fail
              obtain ⟨w9, hw9⟩ : ∃ w9, ((((wE.setCell ⟨w.heap.size + 1, 0, none⟩ (.slice p1 n p3)).setCell ⟨w.heap.size + 1, 1, none⟩ (.slice r1 n r3)).setCell ⟨w.heap.size + 1, 2, none⟩ (.slice m1 ni m3)).setCell ⟨w.heap.size + 1, 3, none⟩ (.slice d1 n d3)) = w9 := ⟨_, rfl⟩
              have hG : Fresh w9 (w.heap.size + 1) (.cells #[.slice p1 n p3, .slice r1 n r3, .slice m1 ni m3, .slice d1 n d3] 31) := by
                rw [← hw9]; exact (((FRE.out.put (k := 0) _).put (k := 1) _).put (k := 2) _).put (k := 3) _
              have hS9 : ∀ b, b ≠ w.heap.size + 1 → w9.heap[b]? = wE.heap[b]? := fun b hb => by
                rw [← hw9]
                exact (Below.heap_setCell _ ⟨w.heap.size + 1, 3, none⟩ _ b hb).trans ((Below.heap_setCell _ ⟨w.heap.size + 1, 2, none⟩ _ b hb).trans ((Below.heap_setCell _ ⟨w.heap.size + 1, 1, none⟩ _ b hb).trans (Below.heap_setCell _ ⟨w.heap.size + 1, 0, none⟩ _ b hb)))
              have hB9 : Below w.heap.size w w9 := by
                rw [← hw9]
                exact (((HEE.out.bel.setCell (p := ⟨w.heap.size + 1, 0, none⟩) (by show _ ≤ w.heap.size + 1; omega) _).setCell (p := ⟨w.heap.size + 1, 1, none⟩) (by show _ ≤ w.heap.size + 1; omega) _).setCell (p := ⟨w.heap.size + 1, 2, none⟩) (by show _ ≤ w.heap.size + 1; omega) _).setCell (p := ⟨w.heap.size + 1, 3, none⟩) (by show _ ≤ w.heap.size + 1; omega) _
              rw [hw9]
              clear hw9 h0 h0' h1 h1' h2 h2' h3 h3' k0 k1 k2 k3
              have e0 := (hG.open (k := 0) rfl).1; have e1 := (hG.open (k := 1) rfl).1; have e2 := (hG.open (k := 2) rfl).1; have e3 := (hG.open (k := 3) rfl).1
              have hz : decP u s model room = (cE, 0) := by rw [HDD.out, hb, hcm, beq_self_eq_true]; rfl
              refine bodyPost_ret (v := .tuple #[.agg #[.slice p1 n p3, .slice r1 n r3, .slice m1 ni m3, .slice d1 n d3], .int .i64 0]) (by simp [results, Try.results26, go_sem, e0, e1, e2, e3]; try rfl) rfl ?_
              rw [hz]
              have hsz2 := HSZ.out
              have hle : w.heap.size ≤ W0.heap.size := by omega
              have hsm : ∀ b, W0.heap.size ≤ b → b < wE.heap.size → w9.heap[b]? = wE.heap[b]? := fun b q1 q2 => hS9 b (by omega)
              exact ⟨hB9, _, _, _, _, xr, xb, rfl, ⟨owns_same' HEE.out.own.pc hle hsm, HEE.out.own.regs.same hle hsm, owns_same' HEE.out.own.mem hle hsm, HEE.out.own.buf.same hle hsm⟩⟩
            · have hcm3 : (encB cE == s) = false := beq_eq_false_iff_ne.2 hcm
              go_wp2_with fail
              obtain ⟨w9, hw9⟩ : ∃ w9, ((((wE.setCell ⟨w.heap.size + 1, 0, none⟩ (.slice none 0 0)).setCell ⟨w.heap.size + 1, 1, none⟩ (.slice none 0 0)).setCell ⟨w.heap.size + 1, 2, none⟩ (.slice none 0 0)).setCell ⟨w.heap.size + 1, 3, none⟩ (.slice none 0 0)) = w9 := ⟨_, rfl⟩
              have hG : Fresh w9 (w.heap.size + 1) (.cells #[.slice none 0 0, .slice none 0 0, .slice none 0 0, .slice none 0 0] 31) := by
                rw [← hw9]; exact (((FRE.out.put (k := 0) _).put (k := 1) _).put (k := 2) _).put (k := 3) _
              have hS9 : ∀ b, b ≠ w.heap.size + 1 → w9.heap[b]? = wE.heap[b]? := fun b hb => by
                rw [← hw9]
                exact (Below.heap_setCell _ ⟨w.heap.size + 1, 3, none⟩ _ b hb).trans ((Below.heap_setCell _ ⟨w.heap.size + 1, 2, none⟩ _ b hb).trans ((Below.heap_setCell _ ⟨w.heap.size + 1, 1, none⟩ _ b hb).trans (Below.heap_setCell _ ⟨w.heap.size + 1, 0, none⟩ _ b hb)))
              have hB9 : Below w.heap.size w w9 := by
                rw [← hw9]
                exact (((HEE.out.bel.setCell (p := ⟨w.heap.size + 1, 0, none⟩) (by show _ ≤ w.heap.size + 1; omega) _).setCell (p := ⟨w.heap.size + 1, 1, none⟩) (by show _ ≤ w.heap.size + 1; omega) _).setCell (p := ⟨w.heap.size + 1, 2, none⟩) (by show _ ≤ w.heap.size + 1; omega) _).setCell (p := ⟨w.heap.size + 1, 3, none⟩) (by show _ ≤ w.heap.size + 1; omega) _
              rw [hw9]
              clear hw9 h0 h0' h1 h1' h2 h2' h3 h3' k0 k1 k2 k3
              have e0 := (hG.open (k := 0) rfl).1; have e1 := (hG.open (k := 1) rfl).1; have e2 := (hG.open (k := 2) rfl).1; have e3 := (hG.open (k := 3) rfl).1
              have hz : decP u s model room = (zeroC, 8) := by rw [HDD.out, hb, show (encB cE == s) = false from beq_eq_false_iff_ne.2 hcm]; rfl
              refine bodyPost_ret (v := .tuple #[.agg #[.slice none 0 0, .slice none 0 0, .slice none 0 0, .slice none 0 0], .int .i64 8]) (by simp [results, Try.results26, go_sem, e0, e1, e2, e3]; try rfl) rfl ?_
              rw [hz]
              exact ⟨hB9, _, _, _, _, [], [], rfl, ZER.out w9 hS9 hG⟩
end Go.Proofs.Ytejkhpgahnncnaa
end

section
namespace Go.Proofs.Ytejkhpgahnncnaa
open Go.RowKit
set_option linter.unusedVariables false
set_option linter.unusedSimpArgs false

/-- A piece of a function's code, by the interpreter. -/
theorem piece {P : Program} {H : Hints} {call : CallT} {f : FuncId} {fuel base : Nat} (hm : P.follows .mixedOrders = true) (hH : GoodH P H) (hc : SoundCall P H call) {c : Code} (hd : drawsC H f c = true)
    {S : Nat → Nat → Prop} {W : World} {hp : Hp} {φ : List Pl} {tm : Tm} {A : Act} (hs : Sim P base S W hp φ) (ht : Reps S W hp φ tm A.tmps.toList) {tm1 : Tm} {hp1 : Hp}
    (h : runC P H call f fuel hp.length c tm hp (fun e tm hp' => match e with
      | .normal => forceL force (fun tm => forceHp (fun hp => some (tm, hp)) hp') tm
      | _ => none) = some (tm1, hp1))
    {K : Act → World → Prop} {Q : Exit → Act → World → Prop} (hK : ∀ S' w' φ' a', Sim P base S' w' hp1 φ' → Reps S' w' hp1 φ' tm1 a'.tmps.toList → Trans base S W hp φ S' w' hp1 φ' → a'.defers = A.defers → K a' w') : c.wp P (Exit.then K Q) A W := by
  refine runC_sound hm hH hc hs c hd (.refl _ _ _ _ _) hs ht h ?_
  intro e tm' hp' S' φ' a' w' g1 g2 g3 g4 g5
  cases e with
  | exit id => cases g1
  | ret => cases g1
  | normal =>
    simp only [forceL_eq force_eq, forceHp_eq] at g1
    cases g1
    exact hK _ _ _ _ g3 g2 g4 g5
/-- The rest of a law's code, by the interpreter. -/
theorem tail_by2 {P : Program} {H : Hints} {call : CallT} {f : FuncId} {fuel base : Nat} (hm : P.follows .mixedOrders = true) (hH : GoodH P H) (hc : SoundCall P H call) {c1 c2 : Code} (hd1 : drawsC H f c1 = true) (hd2 : drawsC H f c2 = true)
    {S : Nat → Nat → Prop} {W : World} {hp : Hp} {φ : List Pl} {tm : Tm} {A : Act} (hs : Sim P base S W hp φ) (ht : Reps S W hp φ tm A.tmps.toList) (hdef : A.defers = []) {fn : Func} {r : Nat} (hres : fn.results = #[.tmp r])
    (h : runC P H call f fuel hp.length c1 tm hp (fun e tm hp' => match e with
      | .normal => runC P H call f fuel hp.length c2 tm hp' (fun e tm hp' => match e with
        | .exit _ => none
        | _ => some (nth .junk tm r))
      | _ => none) = some (AV.bool true))
    {R : Ending → World → Prop} (hR : ∀ w', Below base W w' → R (.returned (.bool true)) w')
    {K1 : Act → World → Prop} (hK : ∀ a w, c2.wp P (bodyPost P fn R) a w → K1 a w) : c1.wp P (Exit.then K1 (bodyPost P fn R)) A W := by
  refine runC_sound hm hH hc hs c1 hd1 (.refl _ _ _ _ _) hs ht h ?_
  intro e tm' hp' S' φ' a' w' g1 g2 g3 g4 g5
  cases e with
  | exit id => cases g1
  | ret => cases g1
  | normal =>
    refine hK _ _ (runC_sound hm hH hc hs c2 hd2 g4 g3 g2 g1 ?_)
    intro e tm'' hp'' S'' φ'' a'' w'' k1 k2 k3 k4 k5
    have fin : some (nth .junk tm'' r) = some (AV.bool true) → a''.defers = [] ∧ ∃ v, (results fn a''.tmps).run P w'' = .ok v w'' ∧ R (.returned v) w'' := by
      intro hx
      have hr := ev_rep k2 (.tmp r)
      have hx' : ev tm'' (.tmp r) = AV.bool true := Option.some.inj hx
      rw [hx'] at hr
      refine ⟨k5.trans (g5.trans hdef), _, results_tmp hres _ _ _, ?_⟩
      have := hr.bool_inv
      rw [show a''.tmps.getD r undef = .bool true from this]
      exact hR _ k4.below
    cases e with
    | exit id => cases k1
    | normal => exact fin k1
    | ret => exact fin k1
theorem reps_nth {S : Nat → Nat → Prop} {w : World} {hp : Hp} {φ : List Pl} {tm : Tm} {a : Act} (h : Reps S w hp φ tm a.tmps.toList) (i : Nat) : Rep S w hp φ (nth .junk tm i) (a.tmps.getD i undef) := ev_rep h (.tmp i)
theorem shut_sl {S : Nat → Nat → Prop} {w : World} {hp : Hp} {φ : List Pl} {size : Nat} {els : List (List AV)} {v : Value} (h : Rep S w hp φ (.sl size els) v) : Rep S w [] [] (.sl size els) v ∧ ∃ a c, v = .slice a els.length c := by
  cases h
  exact ⟨.sl _ _ _ _ _ _ _ ‹_› ‹_› ‹_›, _, _, rfl⟩
theorem shut_int {S : Nat → Nat → Prop} {w : World} {hp : Hp} {φ : List Pl} {k : IntKind} {n : Int} {v : Value} (h : Rep S w hp φ (.int k n) v) : Rep S w [] [] (.int k n) v ∧ v = .int k n := by
  cases h
  exact ⟨.int _ _ _ _ ‹_›, rfl⟩
theorem at_ptr {S : Nat → Nat → Prop} {w : World} {hp : Hp} {φ : List Pl} {id off b : Nat} {v : Value} (h : Rep S w hp φ (.ptr id off) v) (hb : φ[id]? = some (.blk b)) : v = .pointer (some ⟨b, off, none⟩) := by
  cases h with
  | ptr _ _ _ _ b' h => rw [hb] at h; cases h; rfl
theorem reps_at4 {S : Nat → Nat → Prop} {w : World} {hp : Hp} {φ : List Pl} {i j k l n : Nat} {a b c d : AV} {u v x y : Value} {L : List Value} (ha : Rep S w hp φ a u) (hb : Rep S w hp φ b v) (hc : Rep S w hp φ c x) (hd : Rep S w hp φ d y) (hi : L[i]? = some u) (hj : L[j]? = some v) (hk : L[k]? = some x) (hl : L[l]? = some y) (hn : L.length = n) : Reps S w hp φ (((((List.replicate n AV.junk).set i a).set j b).set k c).set l d) L := by
  subst hn
  have := ((((reps_junk (S := S) (w := w) (hp := hp) (φ := φ) L).set i ha).set j hb).set k hc).set l hd
  rwa [set_self hi, set_self hj, set_self hk, set_self hl] at this
end Go.Proofs.Ytejkhpgahnncnaa
end

section
namespace Go.Proofs.Ytejkhpgahnncnaa
theorem uncons_lenB {α : Type} {n : Nat} (l : List α) (h : l.length = n + 1) : ∃ x t, l = x :: t ∧ t.length = n := by
  cases l with
  | nil => cases h
  | cons x t => exact ⟨x, t, rfl, by simpa using h⟩
set_option maxRecDepth 100000 in
theorem arrF51 (a : Array Value) (h : a.size = 51) : ∃ f : Nat → Value, a = #[f 0, f 1, f 2, f 3, f 4, f 5, f 6, f 7, f 8, f 9, f 10, f 11, f 12, f 13, f 14, f 15, f 16, f 17, f 18, f 19, f 20, f 21, f 22, f 23, f 24, f 25, f 26, f 27, f 28, f 29, f 30, f 31, f 32, f 33, f 34, f 35, f 36, f 37, f 38, f 39, f 40, f 41, f 42, f 43, f 44, f 45, f 46, f 47, f 48, f 49, f 50] := by
  obtain ⟨l⟩ := a
  have h0 : l.length = 51 := h
  clear h
  obtain ⟨x0, l0, rfl, h1⟩ := uncons_lenB l h0
  obtain ⟨x1, l1, rfl, h2⟩ := uncons_lenB l0 h1
  obtain ⟨x2, l2, rfl, h3⟩ := uncons_lenB l1 h2
  obtain ⟨x3, l3, rfl, h4⟩ := uncons_lenB l2 h3
  obtain ⟨x4, l4, rfl, h5⟩ := uncons_lenB l3 h4
  obtain ⟨x5, l5, rfl, h6⟩ := uncons_lenB l4 h5
  obtain ⟨x6, l6, rfl, h7⟩ := uncons_lenB l5 h6
  obtain ⟨x7, l7, rfl, h8⟩ := uncons_lenB l6 h7
  obtain ⟨x8, l8, rfl, h9⟩ := uncons_lenB l7 h8
  obtain ⟨x9, l9, rfl, h10⟩ := uncons_lenB l8 h9
  obtain ⟨x10, l10, rfl, h11⟩ := uncons_lenB l9 h10
  obtain ⟨x11, l11, rfl, h12⟩ := uncons_lenB l10 h11
  obtain ⟨x12, l12, rfl, h13⟩ := uncons_lenB l11 h12
  obtain ⟨x13, l13, rfl, h14⟩ := uncons_lenB l12 h13
  obtain ⟨x14, l14, rfl, h15⟩ := uncons_lenB l13 h14
  obtain ⟨x15, l15, rfl, h16⟩ := uncons_lenB l14 h15
  obtain ⟨x16, l16, rfl, h17⟩ := uncons_lenB l15 h16
  obtain ⟨x17, l17, rfl, h18⟩ := uncons_lenB l16 h17
  obtain ⟨x18, l18, rfl, h19⟩ := uncons_lenB l17 h18
  obtain ⟨x19, l19, rfl, h20⟩ := uncons_lenB l18 h19
  obtain ⟨x20, l20, rfl, h21⟩ := uncons_lenB l19 h20
  obtain ⟨x21, l21, rfl, h22⟩ := uncons_lenB l20 h21
  obtain ⟨x22, l22, rfl, h23⟩ := uncons_lenB l21 h22
  obtain ⟨x23, l23, rfl, h24⟩ := uncons_lenB l22 h23
  obtain ⟨x24, l24, rfl, h25⟩ := uncons_lenB l23 h24
  obtain ⟨x25, l25, rfl, h26⟩ := uncons_lenB l24 h25
  obtain ⟨x26, l26, rfl, h27⟩ := uncons_lenB l25 h26
  obtain ⟨x27, l27, rfl, h28⟩ := uncons_lenB l26 h27
  obtain ⟨x28, l28, rfl, h29⟩ := uncons_lenB l27 h28
  obtain ⟨x29, l29, rfl, h30⟩ := uncons_lenB l28 h29
  obtain ⟨x30, l30, rfl, h31⟩ := uncons_lenB l29 h30
  obtain ⟨x31, l31, rfl, h32⟩ := uncons_lenB l30 h31
  obtain ⟨x32, l32, rfl, h33⟩ := uncons_lenB l31 h32
  obtain ⟨x33, l33, rfl, h34⟩ := uncons_lenB l32 h33
  obtain ⟨x34, l34, rfl, h35⟩ := uncons_lenB l33 h34
  obtain ⟨x35, l35, rfl, h36⟩ := uncons_lenB l34 h35
  obtain ⟨x36, l36, rfl, h37⟩ := uncons_lenB l35 h36
  obtain ⟨x37, l37, rfl, h38⟩ := uncons_lenB l36 h37
  obtain ⟨x38, l38, rfl, h39⟩ := uncons_lenB l37 h38
  obtain ⟨x39, l39, rfl, h40⟩ := uncons_lenB l38 h39
  obtain ⟨x40, l40, rfl, h41⟩ := uncons_lenB l39 h40
  obtain ⟨x41, l41, rfl, h42⟩ := uncons_lenB l40 h41
  obtain ⟨x42, l42, rfl, h43⟩ := uncons_lenB l41 h42
  obtain ⟨x43, l43, rfl, h44⟩ := uncons_lenB l42 h43
  obtain ⟨x44, l44, rfl, h45⟩ := uncons_lenB l43 h44
  obtain ⟨x45, l45, rfl, h46⟩ := uncons_lenB l44 h45
  obtain ⟨x46, l46, rfl, h47⟩ := uncons_lenB l45 h46
  obtain ⟨x47, l47, rfl, h48⟩ := uncons_lenB l46 h47
  obtain ⟨x48, l48, rfl, h49⟩ := uncons_lenB l47 h48
  obtain ⟨x49, l49, rfl, h50⟩ := uncons_lenB l48 h49
  obtain ⟨x50, l50, rfl, h51⟩ := uncons_lenB l49 h50
  have : l50 = [] := List.eq_nil_of_length_eq_zero h51
  subst this
  exact ⟨fun i => #[x0, x1, x2, x3, x4, x5, x6, x7, x8, x9, x10, x11, x12, x13, x14, x15, x16, x17, x18, x19, x20, x21, x22, x23, x24, x25, x26, x27, x28, x29, x30, x31, x32, x33, x34, x35, x36, x37, x38, x39, x40, x41, x42, x43, x44, x45, x46, x47, x48, x49, x50].getD i undef, rfl⟩
end Go.Proofs.Ytejkhpgahnncnaa
end

section
namespace Go.Proofs.Ytejkhpgahnncnaa
set_option linter.unusedVariables false
set_option linter.unusedSimpArgs false
set_option maxRecDepth 100000
set_option maxHeartbeats 4000000

theorem ok_pack_reader_next {n:Nat} ⦃r_s:(List UInt8)⦄ ⦃r_bad:Bool⦄ ⦃r:(Int×(List UInt8)×Bool)⦄:m_pack_reader_next n r_s r_bad=some r→CN n 56 [AV.ptr 0 0] [Ob.var 73 [sA r_s,bA r_bad]]=some (iA r.1,[Ob.var 73 [sA r.2.1,bA r.2.2]]):=by
 intro h;rcases n with _|n;cases h
 rw [m_pack_reader_next] at h
 refine callN_eq' Try.func56 (by rfl) rfl rfl (Nat.le_of_ble_eq_true rfl) ?_
 intro call hc;conv=>lhs;whnf
 revert h
 refine br ?_ ?_
 exact rz
 refine ixs ?_;intro x2
 refine cp ?_
 exact rz

theorem ok_pack_reader_row {n:Nat} ⦃v1_n:Int⦄ ⦃r_s:(List UInt8)⦄ ⦃r_bad:Bool⦄ ⦃r:((List Int)×(List UInt8)×Bool)⦄:m_pack_reader_row n v1_n r_s r_bad=some r→CN n 45 [AV.ptr 0 0,iA v1_n] [Ob.var 73 [sA r_s,bA r_bad]]=some (AV.sl 1 (List.map encI r.1),[Ob.var 73 [sA r.2.1,bA r.2.2]]):=by
 intro h;rcases n with _|n;cases h
 rw [m_pack_reader_row] at h
 refine callN_eq' Try.func45 (by rfl) rfl rfl (Nat.le_of_ble_eq_true rfl) ?_
 intro call hc;conv=>lhs;whnf
 revert h
 intro h
 refine chk_some2 h ?_;clear h;intro hc2 h
 try simp only [ls]
 refine bif_pos (by first|exact make_ok (B:=8) hc2 rfl (by kernel_rfl)|exact make_ok2 (B:=8) hc2 (by kernel_rfl)) ?_
 have hr1:List.replicate v1_n.toNat [iA (0)]=List.map encI (List.replicate v1_n.toNat 0:List Int):=by rw [List.map_replicate];rfl
 simp only [hr1,ls]
 conv=>lhs;whnf
 revert h
 intro h;refine bind_some2 h ?_;clear h;intro o14 ho14 h
 refine lq (σ:=(Int×(List UInt8)×Bool×(List Int))) (τ:=((List UInt8)×Bool×(List Int))) (ν:=((List Int)×(List UInt8)×Bool)) 0 (fun (s3,s4,s5,s6) a8=>stOf 21 [(0,AV.ptr 0 0),(5,AV.own 1 0 (List.length s6)),(10,iA (((((List.replicate v1_n.toNat 0:List Int)).length:Nat):Int))),(11,iA s3)]) (fun (s3,s4,s5,s6) a8=>[Ob.var 73 [sA s4,bA s5],Ob.arr 1 (List.map encI s6)]) (fun (x21,x22,x23) a20=>stOf 21 [(5,AV.own 1 0 (List.length x23))]) (fun (x21,x22,x23) a20=>[Ob.var 73 [sA x21,bA x22],Ob.arr 1 (List.map encI x23)]) (fun v=>(AV.sl 1 (List.map encI v.1),[Ob.var 73 [sA v.2.1,bA v.2.2]])) (fun k s=>pack_reader_row_L0 n v1_n k s.1 s.2.1 s.2.2.1 s.2.2.2) (fun s=>rfl) o14 n (0,r_s,r_bad,(List.replicate v1_n.toNat 0:List Int)) (fun _=>0) ho14 ?_ ?_
 intro k7 ss a8 K9 cont10 hK11 hcont12 h hr13
 obtain ⟨s3,s4,s5,s6⟩:=ss
 replace h:pack_reader_row_L0 n v1_n (k7+1) s3 s4 s5 s6=some o14:=h
 rw [pack_reader_row_L0] at h
 conv=>lhs;whnf
 revert h
 refine br ?_ ?_
 refine ca hc (fun _ h=>ok_pack_reader_next h) ?_;intro y16
 intro h
 refine bind_some2 h ?_;clear h;intro x18 hx18 h
 try simp only [ls]
 refine bif_pos (by first|exact idx_in hx18|exact idx_in' hx18|exact own_in hx18|exact own_in' hx18|(have q:=idx_in hx18;simp only [List.length_set] at q;exact q)|(have q:=own_in' hx18;simp only [List.length_set,Nat.zero_add] at q ⊢;exact q)) ?_
 conv=>lhs;whnf
 try simp only [Nat.zero_add,idx_nth (f:=encI) hx18,dec_self,ls]
 conv=>lhs;whnf
 revert h
 intro h
 have hs19:setNth (List.map encI s6) s3.toNat [iA y16.1]=List.map encI (List.set s6 s3.toNat y16.1):=by rw [setNth_eq,List.map_set];rfl
 have hs19_u:setNth (List.map encI s6) s3.toNat (updL (encI x18) 0 [iA y16.1])=List.map encI (List.set s6 s3.toNat y16.1):=by rw [setNth_eq,List.map_set];rfl
 try simp only [Nat.zero_add,idx_nth (f:=encI) hx18]
 conv=>lhs;whnf
 try simp only [hs19,hs19_u]
 conv=>lhs;whnf
 revert h
 exact fun h=>cq (hcont12 (IntKind.i64.wrap (s3+1),y16.2.1,y16.2.2,(List.set s6 s3.toNat y16.1)) (fun _=>0) h)
 intro h;cases sj h
 exact kq (hr13 (fun _=>0))
 refine lrc ?_ ?_
 intro v e;subst e;cases sj h;rfl
 intro t a20 e;subst e
 obtain ⟨x21,x22,x23⟩:=t
 dsimp only at h
 conv=>lhs;whnf
 revert h
 intro h;cases sj h
 try simp only [ls]
 exact fq (y:=some (AV.sl 1 (List.take (List.length x23) (List.drop 0 (List.map encI x23))),[Ob.var 73 [sA x21,bA x22]]))

theorem ok_pack_reader_thread {n:Nat} ⦃v2_regs:Int⦄ ⦃r_s:(List UInt8)⦄ ⦃r_bad:Bool⦄ ⦃c_Pc:(List Int)⦄ ⦃c_Regs:(List (List Int))⦄ ⦃c_Mem:(List Int)⦄ ⦃c_Buf:(List (List EntryS))⦄ ⦃r:((List UInt8)×Bool×(List Int)×(List (List Int))×(List (List EntryS)))⦄:m_pack_reader_thread n v2_regs r_s r_bad c_Pc c_Regs c_Mem c_Buf=some r→CN n 44 [AV.ptr 0 0,AV.ptr 1 0,iA v2_regs] [Ob.var 73 [sA r_s,bA r_bad],Ob.var 31 [AV.row 2 (List.length c_Pc),AV.row 3 (List.length c_Regs),AV.row 4 (List.length c_Mem),AV.row 5 (List.length c_Buf)],Ob.row 3 1 (List.map encI c_Pc),Ob.row 22 1 (List.map encRow c_Regs),Ob.row 3 1 (List.map encI c_Mem),Ob.row 38 1 (List.map encBuf c_Buf)]=some (AV.tup [],[Ob.var 73 [sA r.1,bA r.2.1],Ob.var 31 [AV.row 2 (List.length r.2.2.1),AV.row 3 (List.length r.2.2.2.1),AV.row 4 (List.length c_Mem),AV.row 5 (List.length r.2.2.2.2)],Ob.row 3 1 (List.map encI r.2.2.1),Ob.row 22 1 (List.map encRow r.2.2.2.1),Ob.row 3 1 (List.map encI c_Mem),Ob.row 38 1 (List.map encBuf r.2.2.2.2)]):=by
 intro h;rcases n with _|n;cases h
 rw [m_pack_reader_thread] at h
 refine callN_eq' Try.func44 (by rfl) rfl rfl (Nat.le_of_ble_eq_true rfl) ?_
 intro call hc;conv=>lhs;whnf
 revert h
 refine ca hc (fun _ h=>ok_pack_reader_next h) ?_;intro y1
 refine ca hc (fun _ h=>ok_pack_reader_next h) ?_;intro y3
 refine ar (ap encI (List.map encI c_Pc) c_Pc ([[iA (IntKind.i64.wrap ((IntKind.i64.wrap (256 * y1.1))+y3.1))]]) ([IntKind.i64.wrap ((IntKind.i64.wrap (256 * y1.1))+y3.1)]:List Int)) ?_
 refine ca hc (fun _ h=>ok_pack_reader_row h) ?_;intro y7
 refine ar (ap encRow (List.map encRow c_Regs) c_Regs ([[AV.sl 1 (List.map encI y7.1)]]) ([y7.1]:List (List Int))) ?_
 refine ca hc (fun _ h=>ok_pack_reader_next h) ?_;intro y11
 intro h;refine bind_some2 h ?_;clear h;intro o24 ho24 h
 refine lq (σ:=(Int×(List UInt8)×Bool×(List EntryS))) (τ:=((List UInt8)×Bool×(List EntryS))) (ν:=((List UInt8)×Bool×(List Int)×(List (List Int))×(List (List EntryS)))) 0 (fun (s13,s14,s15,s16) a18=>stOf 61 [(0,AV.ptr 0 0),(1,AV.ptr 1 0),(7,AV.row 6 (List.length s16)),(38,iA y11.1),(39,iA s13)]) (fun (s13,s14,s15,s16) a18=>[Ob.var 73 [sA s14,bA s15],Ob.var 31 [AV.row 2 (List.length ((c_Pc++([IntKind.i64.wrap ((IntKind.i64.wrap (256 * y1.1))+y3.1)]:List Int)))),AV.row 3 (List.length ((c_Regs++([y7.1]:List (List Int))))),AV.row 4 (List.length c_Mem),AV.row 5 (List.length c_Buf)],Ob.row 3 1 (List.map encI (c_Pc++([IntKind.i64.wrap ((IntKind.i64.wrap (256 * y1.1))+y3.1)]:List Int))),Ob.row 22 1 (List.map encRow (c_Regs++([y7.1]:List (List Int)))),Ob.row 3 1 (List.map encI c_Mem),Ob.row 38 1 (List.map encBuf c_Buf),Ob.row 40 2 (List.map encE s16)]) (fun (x33,x34,x35) a32=>stOf 61 [(1,AV.ptr 1 0),(7,AV.row 6 (List.length x35))]) (fun (x33,x34,x35) a32=>[Ob.var 73 [sA x33,bA x34],Ob.var 31 [AV.row 2 (List.length ((c_Pc++([IntKind.i64.wrap ((IntKind.i64.wrap (256 * y1.1))+y3.1)]:List Int)))),AV.row 3 (List.length ((c_Regs++([y7.1]:List (List Int))))),AV.row 4 (List.length c_Mem),AV.row 5 (List.length c_Buf)],Ob.row 3 1 (List.map encI (c_Pc++([IntKind.i64.wrap ((IntKind.i64.wrap (256 * y1.1))+y3.1)]:List Int))),Ob.row 22 1 (List.map encRow (c_Regs++([y7.1]:List (List Int)))),Ob.row 3 1 (List.map encI c_Mem),Ob.row 38 1 (List.map encBuf c_Buf),Ob.row 40 2 (List.map encE x35)]) (fun v=>(AV.tup [],[Ob.var 73 [sA v.1,bA v.2.1],Ob.var 31 [AV.row 2 (List.length v.2.2.1),AV.row 3 (List.length v.2.2.2.1),AV.row 4 (List.length c_Mem),AV.row 5 (List.length v.2.2.2.2)],Ob.row 3 1 (List.map encI v.2.2.1),Ob.row 22 1 (List.map encRow v.2.2.2.1),Ob.row 3 1 (List.map encI c_Mem),Ob.row 38 1 (List.map encBuf v.2.2.2.2)])) (fun k s=>pack_reader_thread_L0 n y11 k s.1 s.2.1 s.2.2.1 s.2.2.2) (fun s=>rfl) o24 n (0,y11.2.1,y11.2.2,([]:List EntryS)) (fun _=>0) ho24 ?_ ?_
 intro k17 ss a18 K19 cont20 hK21 hcont22 h hr23
 obtain ⟨s13,s14,s15,s16⟩:=ss
 replace h:pack_reader_thread_L0 n y11 (k17+1) s13 s14 s15 s16=some o24:=h
 rw [pack_reader_thread_L0] at h
 conv=>lhs;whnf
 revert h
 refine br ?_ ?_
 refine ca hc (fun _ h=>ok_pack_reader_next h) ?_;intro y26
 refine ca hc (fun _ h=>ok_pack_reader_next h) ?_;intro y28
 refine ar (ap encE (List.map encE s16) s16 ([[iA y26.1,iA y28.1]]) ([(⟨y26.1,y28.1⟩:EntryS)]:List EntryS)) ?_
 exact fun h=>cq (hcont22 (IntKind.i64.wrap (s13+1),y28.2.1,y28.2.2,(s16++([(⟨y26.1,y28.1⟩:EntryS)]:List EntryS))) (fun _=>0) h)
 intro h;cases sj h
 exact kq (hr23 (fun _=>0))
 refine lrc ?_ ?_
 intro v e;subst e;cases sj h;rfl
 intro t a32 e;subst e
 obtain ⟨x33,x34,x35⟩:=t
 dsimp only at h
 conv=>lhs;whnf
 revert h
 refine ar (ap encBuf (List.map encBuf c_Buf) c_Buf ([[AV.sl 2 (List.map encE x35)]]) ([x35]:List (List EntryS))) ?_
 intro h;cases sj h
 try simp only [ls]
 exact fq (y:=some (AV.tup [],[Ob.var 73 [sA x33,bA x34],Ob.var 31 [AV.row 2 (List.length ((c_Pc++([IntKind.i64.wrap ((IntKind.i64.wrap (256 * y1.1))+y3.1)]:List Int)))),AV.row 3 (List.length ((c_Regs++([y7.1]:List (List Int))))),AV.row 4 (List.length c_Mem),AV.row 5 (List.length ((c_Buf++([x35]:List (List EntryS)))))],Ob.row 3 1 (List.map encI (c_Pc++([IntKind.i64.wrap ((IntKind.i64.wrap (256 * y1.1))+y3.1)]:List Int))),Ob.row 22 1 (List.map encRow (c_Regs++([y7.1]:List (List Int)))),Ob.row 3 1 (List.map encI c_Mem),Ob.row 38 1 (List.map encBuf (c_Buf++([x35]:List (List EntryS))))]))

theorem ok_pack_Decode {n:Nat} ⦃v0_u:UnitS⦄ ⦃v1_s:(List UInt8)⦄ ⦃v2_model:Int⦄ ⦃v3_room:Int⦄ ⦃r:(ConfS×Int)⦄:m_pack_Decode n v0_u v1_s v2_model v3_room=some r→CN n 25 [AV.agg [iA (v0_u.mod),AV.sl 1 (List.map encI (v0_u.init)),AV.sl 1 (List.map encI (v0_u.regs)),AV.sl 1 (List.map encThr (v0_u.code))],sA v1_s,iA v2_model,iA v3_room] []=some (AV.tup [AV.agg [AV.sl 1 (List.map encI (r.1.pc)),AV.sl 1 (List.map encRow (r.1.regs)),AV.sl 1 (List.map encI (r.1.mem)),AV.sl 1 (List.map encBuf (r.1.buf))],iA r.2],[]):=by
 intro h;rcases n with _|n;cases h
 rw [m_pack_Decode] at h
 refine callN_eq' Try.func25 (by rfl) rfl rfl (Nat.le_of_ble_eq_true rfl) ?_
 intro call hc;conv=>lhs;whnf
 revert h
 refine ca hc (fun _ h=>ok_conf_Start h) ?_;intro y1
 refine br ?_ ?_
 exact rz
 intro h;refine bind_some2 h ?_;clear h;intro o17 ho17 h
 refine lq (σ:=(Int×(List UInt8)×Bool×(List Int)×(List (List Int))×(List (List EntryS)))) (τ:=((List UInt8)×Bool×(List Int)×(List (List Int))×(List (List EntryS)))) (ν:=(ConfS×Int)) 0 (fun (s4,s5,s6,s7,s8,s9) a11=>stOf 65 [(2,iA v2_model),(3,iA v3_room),(4,AV.ptr 0 0),(8,AV.ptr 1 0),(10,AV.ptr 2 0),(11,AV.ptr 3 0),(28,AV.sl 1 (List.map encI (v0_u.regs))),(29,iA ((((v0_u.regs).length:Nat):Int))),(30,iA s4)]) (fun (s4,s5,s6,s7,s8,s9) a11=>[Ob.var 25 [iA (v0_u.mod),AV.sl 1 (List.map encI (v0_u.init)),AV.sl 1 (List.map encI (v0_u.regs)),AV.sl 1 (List.map encThr (v0_u.code))],Ob.var 31 [AV.row 5 (List.length (([]:List Int))),AV.row 6 (List.length (([]:List (List Int)))),AV.row 7 (List.length (([]:List Int))),AV.row 8 (List.length (([]:List (List EntryS))))],Ob.var 73 [sA s5,bA s6],Ob.var 31 [AV.row 9 (List.length s7),AV.row 10 (List.length s8),AV.row 11 (List.length (([]:List Int))),AV.row 12 (List.length s9)],Ob.var 31 [AV.sl 1 (List.map encI (y1.1.pc)),AV.sl 1 (List.map encRow (y1.1.regs)),AV.sl 1 (List.map encI (y1.1.mem)),AV.sl 1 (List.map encBuf (y1.1.buf))],Ob.row 3 1 ([]),Ob.row 22 1 ([]),Ob.row 3 1 ([]),Ob.row 38 1 ([]),Ob.row 3 1 (List.map encI s7),Ob.row 22 1 (List.map encRow s8),Ob.row 3 1 ([]),Ob.row 38 1 (List.map encBuf s9)]) (fun (x23,x24,x25,x26,x27) a22=>stOf 65 [(2,iA v2_model),(3,iA v3_room),(4,AV.ptr 0 0),(8,AV.ptr 1 0),(10,AV.ptr 2 0),(11,AV.ptr 3 0)]) (fun (x23,x24,x25,x26,x27) a22=>[Ob.var 25 [iA (v0_u.mod),AV.sl 1 (List.map encI (v0_u.init)),AV.sl 1 (List.map encI (v0_u.regs)),AV.sl 1 (List.map encThr (v0_u.code))],Ob.var 31 [AV.row 5 (List.length (([]:List Int))),AV.row 6 (List.length (([]:List (List Int)))),AV.row 7 (List.length (([]:List Int))),AV.row 8 (List.length (([]:List (List EntryS))))],Ob.var 73 [sA x23,bA x24],Ob.var 31 [AV.row 9 (List.length x25),AV.row 10 (List.length x26),AV.row 11 (List.length (([]:List Int))),AV.row 12 (List.length x27)],Ob.var 31 [AV.sl 1 (List.map encI (y1.1.pc)),AV.sl 1 (List.map encRow (y1.1.regs)),AV.sl 1 (List.map encI (y1.1.mem)),AV.sl 1 (List.map encBuf (y1.1.buf))],Ob.row 3 1 ([]),Ob.row 22 1 ([]),Ob.row 3 1 ([]),Ob.row 38 1 ([]),Ob.row 3 1 (List.map encI x25),Ob.row 22 1 (List.map encRow x26),Ob.row 3 1 ([]),Ob.row 38 1 (List.map encBuf x27)]) (fun v=>(AV.tup [AV.agg [AV.sl 1 (List.map encI (v.1.pc)),AV.sl 1 (List.map encRow (v.1.regs)),AV.sl 1 (List.map encI (v.1.mem)),AV.sl 1 (List.map encBuf (v.1.buf))],iA v.2],[])) (fun k s=>pack_Decode_L0 n v0_u k s.1 s.2.1 s.2.2.1 s.2.2.2.1 s.2.2.2.2.1 s.2.2.2.2.2) (fun s=>rfl) o17 n (0,v1_s,false,([]:List Int),([]:List (List Int)),([]:List (List EntryS))) (fun _=>0) ho17 ?_ ?_
 intro k10 ss a11 K12 cont13 hK14 hcont15 h hr16
 obtain ⟨s4,s5,s6,s7,s8,s9⟩:=ss
 replace h:pack_Decode_L0 n v0_u (k10+1) s4 s5 s6 s7 s8 s9=some o17:=h
 rw [pack_Decode_L0] at h
 conv=>lhs;whnf
 revert h
 refine br ?_ ?_
 refine ix ?_;intro x19
 refine cr hc (fun y20 h=>(show CN n 44 [AV.ptr 0 0,AV.ptr 1 0,iA x19] [Ob.var 73 [sA s5,bA s6],Ob.var 31 [AV.row 2 (List.length s7),AV.row 3 (List.length s8),AV.row 4 (List.length (([]:List Int))),AV.row 5 (List.length s9)],Ob.row 3 1 (List.map encI s7),Ob.row 22 1 (List.map encRow s8),Ob.row 3 1 ([]),Ob.row 38 1 (List.map encBuf s9)]=some (AV.tup [],[Ob.var 73 [sA y20.1,bA y20.2.1],Ob.var 31 [AV.row 2 (List.length y20.2.2.1),AV.row 3 (List.length y20.2.2.2.1),AV.row 4 (List.length (([]:List Int))),AV.row 5 (List.length y20.2.2.2.2)],Ob.row 3 1 (List.map encI y20.2.2.1),Ob.row 22 1 (List.map encRow y20.2.2.2.1),Ob.row 3 1 ([]),Ob.row 38 1 (List.map encBuf y20.2.2.2.2)]) from ok_pack_reader_thread (r:=y20) h)) ?_;intro y20
 exact fun h=>cq (hcont15 (IntKind.i64.wrap (s4+1),y20.1,y20.2.1,y20.2.2.1,y20.2.2.2.1,y20.2.2.2.2) (fun _=>0) h)
 intro h;cases sj h
 exact kq (hr16 (fun _=>0))
 refine lrc ?_ ?_
 intro v e;subst e;cases sj h;rfl
 intro t a22 e;subst e
 obtain ⟨x23,x24,x25,x26,x27⟩:=t
 dsimp only at h
 conv=>lhs;whnf
 revert h
 refine cr hc (fun _ h=>ok_pack_reader_row h) ?_;intro y28
 refine br ?_ ?_
 exact rz
 refine br ?_ ?_
 refine cr hc (fun y32 h=>(show CN n 29 [AV.agg [iA (v0_u.mod),AV.sl 1 (List.map encI (v0_u.init)),AV.sl 1 (List.map encI (v0_u.regs)),AV.sl 1 (List.map encThr (v0_u.code))],AV.agg [AV.sl 1 (List.map encI x25),AV.sl 1 (List.map encRow x26),AV.sl 1 (List.map encI y28.1),AV.sl 1 (List.map encBuf x27)],iA v2_model,iA v3_room] []=some (bA y32,[]) from ok_conf_Right (r:=y32) h)) ?_;intro y32
 refine br ?_ ?_
 intro h;cases sj h
 try simp only [ls]
 exact fq (y:=some (AV.tup [AV.agg [AV.sl 1 (List.take (List.length x25) (List.map encI x25)),AV.sl 1 (List.take (List.length x26) (List.map encRow x26)),AV.sl 1 (List.map encI y28.1),AV.sl 1 (List.take (List.length x27) (List.map encBuf x27))],iA (0)],[]))
 exact rz
 exact rz

end Go.Proofs.Ytejkhpgahnncnaa
end

section
namespace Go.Proofs.Ytejkhpgahnncnaa
open Go.RowKit
set_option linter.unusedVariables false
set_option linter.unusedSimpArgs false

theorem conf_forms {S : Nat → Nat → Prop} {w : World} {c : ConfS} {v : Value} (h : Rep S w [] [] (aC c) v) : ∃ k1 c1 k2 c2 k3 c3 k4 c4, v = .agg #[.slice k1 c.pc.length c1, .slice k2 c.regs.length c2, .slice k3 c.mem.length c3, .slice k4 c.buf.length c4] := by
  obtain ⟨vp, vr, vm, vq, rfl, s1, s2, s3, s4⟩ := dec_confV h
  obtain ⟨a1, c1, rfl, _⟩ := ints_view s1
  obtain ⟨a2, c2, rfl, _⟩ := slices_view s2
  obtain ⟨a3, c3, rfl, _⟩ := ints_view s3
  obtain ⟨a4, c4, rfl, _⟩ := slices_view s4
  exact ⟨_, _, _, _, _, _, _, _, rfl⟩
theorem tupc_inv {S : Nat → Nat → Prop} {w : World} {a : AV} {k : IntKind} {n : Int} {v : Value} (h : Rep S w [] [] (.tup [a, .int k n]) v) : ∃ x, v = .tuple #[x, .int k n] ∧ Rep S w [] [] a x := by
  obtain ⟨vs, hr, rfl⟩ := h.tup_inv
  cases hr with | cons _ _ _ x _ _ h1 hr =>
  cases hr with | cons _ _ _ y _ _ h2 hr =>
  cases hr
  exact ⟨x, by rw [h2.int_inv.1], h1⟩
theorem zero_copy (B : Nat) (w : World) : CopyIs B w zeroC (.slice none 0 0) (.slice none 0 0) (.slice none 0 0) (.slice none 0 0) [] [] := ⟨World.ownsRow_nil _ _ _ _, RowsAt.nil _ _ _ _ _, World.ownsRow_nil _ _ _ _, RowsAt.nil _ _ _ _ _⟩
set_option maxRecDepth 100000 in
set_option maxHeartbeats 4000000 in
theorem rdecode_bad (w : World) (v : Value) (u : UnitS) (s : ByteArray) (model room : Int) (hv : Rep (SAll w) w [] [] (aU u) v) (hu : rightU u = false) : Calls Try.prog 26 #[v, .string s, .int .i64 model, .int .i64 room] w fun e w' => Below w.heap.size w w' ∧ e = .returned (.tuple #[.agg #[.slice none 0 0, .slice none 0 0, .slice none 0 0, .slice none 0 0], .int .i64 8]) := by
  obtain ⟨_, ⟨vi, vr0, vc, rfl, s1, s2, s3, _, _⟩, e0⟩ : ∃ v', UnitV w v' u ∧ v = v' := ⟨v, dec_unitV _ _ _ _ hv, rfl⟩
  subst e0
  obtain ⟨a1, c1, rfl, _⟩ := ints_view s1
  obtain ⟨a2, c2, rfl, _⟩ := ints_view s2
  obtain ⟨a3, c3, rfl, _⟩ := slices_view s3
  clear s1 s2 s3
  obtain ⟨q1, hq1⟩ : ∃ n, u.init.length = n := ⟨_, rfl⟩
  obtain ⟨q2, hq2⟩ : ∃ n, u.regs.length = n := ⟨_, rfl⟩
  obtain ⟨q3, hq3⟩ : ∃ n, u.code.length = n := ⟨_, rfl⟩
  rw [hq1, hq2, hq3] at hv ⊢
  have HV := Lib.hid hv
  clear hq1 hq2 hq3 hv
  obtain ⟨W0, hW0⟩ : ∃ W, W = (w.alloc (.cells #[.int .i64 u.mod, .slice a1 q1 c1, .slice a2 q2 c2, .slice a3 q3 c3] 25)).alloc (.cells #[.slice none 0 0, .slice none 0 0, .slice none 0 0, .slice none 0 0] 31) := ⟨_, rfl⟩
  have hb0 : Below w.heap.size w W0 := hW0 ▸ ((Below.refl _ _).alloc (Nat.le_refl _) _).alloc (by simp) _
  have fu : Fresh W0 w.heap.size (.cells #[.int .i64 u.mod, .slice a1 q1 c1, .slice a2 q2 c2, .slice a3 q3 c3] 25) := by
    rw [hW0]; exact (Fresh.new w _).later ((Below.refl _ _).alloc (Nat.le_refl _) _)
  have fr : Fresh W0 (w.heap.size + 1) (.cells #[.slice none 0 0, .slice none 0 0, .slice none 0 0, .slice none 0 0] 31) := by
    have := heap_alloc_new (w.alloc (.cells #[.int .i64 u.mod, .slice a1 q1 c1, .slice a2 q2 c2, .slice a3 q3 c3] 25)) (.cells #[.slice none 0 0, .slice none 0 0, .slice none 0 0, .slice none 0 0] 31)
    rw [World.size_alloc] at this
    rw [hW0]; exact this
  have hF := call_all (ok_ref09_Start (start_rbad 10 u hu)) (w := W0) (vs := [.agg #[.int .i64 u.mod, .slice a1 q1 c1, .slice a2 q2 c2, .slice a3 q3 c3]]) (.cons _ _ _ _ _ _ (Rep.mono (SAll.ext hb0) HV.out (.refl _ _)) (.nil _ _))
  have FR := Lib.hid fr; have HB := Lib.hid hb0; have HF := Lib.hid hF
  go_enter Try.func26, Try.ntmps26
  go_upto_region 1 with (fail)
  rw [← hW0]
  have y0 := (fu.open (k := 0) rfl).1; have y1 := (fu.open (k := 1) rfl).1; have y2 := (fu.open (k := 2) rfl).1; have y3 := (fu.open (k := 3) rfl).1
  clear hW0 hb0 fu fr hF
  go_wp2_with fail
  refine HF.out.mono ?_
  rintro e w1 ⟨x, S', rfl, hb1, hx⟩
  obtain ⟨y, rfl, hy⟩ := tupc_inv hx
  obtain ⟨k1, l1, k2, l2, k3, l3, k4, l4, rfl⟩ := conf_forms hy
  have hl : zeroC.pc.length = 0 ∧ zeroC.regs.length = 0 ∧ zeroC.mem.length = 0 ∧ zeroC.buf.length = 0 := ⟨rfl, rfl, rfl, rfl⟩
  simp only [hl]
  have frE := (FR.out.later hb1).later ((Below.refl w1.heap.size w1).alloc (Nat.le_refl _) (.cells #[.slice k1 0 l1, .slice k2 0 l2, .slice k3 0 l3, .slice k4 0 l4] 31))
  obtain ⟨h0, h0'⟩ := frE.open (k := 0) rfl; obtain ⟨h1, h1'⟩ := frE.open (k := 1) rfl; obtain ⟨h2, h2'⟩ := frE.open (k := 2) rfl; obtain ⟨h3, h3'⟩ := frE.open (k := 3) rfl
  have FRE := Lib.hid frE
  have HBE := Lib.hid ((HB.out.trans (hb1.mono HB.out.size)).alloc (by have := HB.out.size; have := hb1.size; omega) (.cells #[.slice k1 0 l1, .slice k2 0 l2, .slice k3 0 l3, .slice k4 0 l4] 31))
  clear y0 y1 y2 y3 hx hy hb1 frE hl HF FR HB
  go_wp2_with fail
  obtain ⟨w9, hw9⟩ : ∃ w9, (((((w1.alloc (.cells #[.slice k1 0 l1, .slice k2 0 l2, .slice k3 0 l3, .slice k4 0 l4] 31)).setCell ⟨w.heap.size + 1, 0, none⟩ (.slice none 0 0)).setCell ⟨w.heap.size + 1, 1, none⟩ (.slice none 0 0)).setCell ⟨w.heap.size + 1, 2, none⟩ (.slice none 0 0)).setCell ⟨w.heap.size + 1, 3, none⟩ (.slice none 0 0)) = w9 := ⟨_, rfl⟩
  have hG : Fresh w9 (w.heap.size + 1) (.cells #[.slice none 0 0, .slice none 0 0, .slice none 0 0, .slice none 0 0] 31) := by
    rw [← hw9]; exact (((FRE.out.put (k := 0) _).put (k := 1) _).put (k := 2) _).put (k := 3) _
  have hB9 : Below w.heap.size w w9 := by
    rw [← hw9]
    exact (((HBE.out.setCell (p := ⟨w.heap.size + 1, 0, none⟩) (by show _ ≤ w.heap.size + 1; omega) _).setCell (p := ⟨w.heap.size + 1, 1, none⟩) (by show _ ≤ w.heap.size + 1; omega) _).setCell (p := ⟨w.heap.size + 1, 2, none⟩) (by show _ ≤ w.heap.size + 1; omega) _).setCell (p := ⟨w.heap.size + 1, 3, none⟩) (by show _ ≤ w.heap.size + 1; omega) _
  rw [hw9]
  clear hw9 h0 h0' h1 h1' h2 h2' h3 h3'
  have e0 := (hG.open (k := 0) rfl).1; have e1 := (hG.open (k := 1) rfl).1; have e2 := (hG.open (k := 2) rfl).1; have e3 := (hG.open (k := 3) rfl).1
  exact bodyPost_ret (v := .tuple #[.agg #[.slice none 0 0, .slice none 0 0, .slice none 0 0, .slice none 0 0], .int .i64 8]) (by simp [results, Try.results26, go_sem, e0, e1, e2, e3]; try rfl) rfl ⟨hB9, rfl⟩
theorem rdecode_all (w : World) (v : Value) (u : UnitS) (s : List UInt8) (model room : Int) (hv : Rep (SAll w) w [] [] (aU u) v) (hs : s.length ≤ 500) (hm : okI model) (hr : okI room) : Calls Try.prog 26 #[v, .string (bs s), .int .i64 model, .int .i64 room] w fun e w' => Below w.heap.size w w' ∧ ∃ vp vr vm vb xr xb, e = .returned (.tuple #[.agg #[vp, vr, vm, vb], .int .i64 (decP u s model room).2]) ∧ CopyIs w.heap.size w' (decP u s model room).1 vp vr vm vb xr xb := by
  cases hu : rightU u with
  | true => exact rdecode_any w v u s model room hv hu hs hm hr
  | false =>
    refine (rdecode_bad w v u (bs s) model room hv hu).mono ?_
    rintro e w' ⟨hb, rfl⟩
    have hz : decP u s model room = (zeroC, 8) := by unfold decP; rw [hu]; rfl
    rw [hz]
    exact ⟨hb, _, _, _, _, [], [], rfl, zero_copy _ _⟩
theorem decP_light (u : UnitS) (s : List UInt8) (model room : Int) : LightC (decP u s model room).1 ∧ WfC (decP u s model room).1 := by
  unfold decP
  cases hu : rightU u with
  | false => exact ⟨zeroC_light, ⟨by simp [zeroC], by simp [zeroC], by simp [zeroC], by simp [zeroC]⟩⟩
  | true =>
    split
    · exact ⟨confP_light u hu s, confP_wf u s⟩
    · exact ⟨zeroC_light, ⟨by simp [zeroC], by simp [zeroC], by simp [zeroC], by simp [zeroC]⟩⟩

theorem unit_cells {S : Nat → Nat → Prop} {w : World} {hp : Hp} {φ : List Pl} {u : UnitS} {vs : List Value} (h : Reps S w hp φ (cellsU u) vs) : ∃ k1 c1 k2 c2 k3 c3, vs = [.int .i64 u.mod, .slice k1 u.init.length c1, .slice k2 u.regs.length c2, .slice k3 u.code.length c3] ∧ Rep S w [] [] (aU u) (.agg #[.int .i64 u.mod, .slice k1 u.init.length c1, .slice k2 u.regs.length c2, .slice k3 u.code.length c3]) := by
  cases h with | cons _ _ _ v0 _ _ h0 h =>
  cases h with | cons _ _ _ v1 _ _ h1 h =>
  cases h with | cons _ _ _ v2 _ _ h2 h =>
  cases h with | cons _ _ _ v3 _ _ h3 h =>
  cases h
  obtain ⟨h0, rfl⟩ := shut_int h0
  obtain ⟨h1, k1, c1, rfl⟩ := shut_sl h1
  obtain ⟨h2, k2, c2, rfl⟩ := shut_sl h2
  obtain ⟨h3, k3, c3, rfl⟩ := shut_sl h3
  simp only [List.length_map] at h1 h2 h3 ⊢
  exact ⟨_, _, _, _, _, _, rfl, .agg _ _ _ [_, _, _, _] (.cons _ _ _ _ _ _ h0 (.cons _ _ _ _ _ _ h1 (.cons _ _ _ _ _ _ h2 (.cons _ _ _ _ _ _ h3 (.nil _ _))))) (by intro x hx; simp at hx; rcases hx with rfl | rfl | rfl | rfl <;> rfl)⟩
theorem two_cells {S : Nat → Nat → Prop} {w : World} {hp : Hp} {φ : List Pl} {a b : Int} {vs : List Value} (h : Reps S w hp φ [iA a, iA b] vs) : vs = [.int .i64 a, .int .i64 b] ∧ okI a ∧ okI b := by
  cases h with | cons _ _ _ v0 _ _ h0 h =>
  cases h with | cons _ _ _ v1 _ _ h1 h =>
  cases h
  exact ⟨by rw [h0.int_inv.1, h1.int_inv.1], h0.int_inv.2, h1.int_inv.2⟩

set_option maxRecDepth 100000 in
set_option maxHeartbeats 4000000 in
theorem packDecodes_walk (W : World) (v0 v2 : Value) (u : UnitS) (s : List UInt8) (h0 h1 : Int) (hu : Rep (SAll W) W [] [] (aU u) v0) (hs : s.length ≤ maxLen) (hh : Rep (SAll W) W [] [] (.agg [iA h0, iA h1]) v2) : Calls Try.prog 6 #[v0, .string (bs s), v2] W (LawOk W) := by
  have hargs : Reps (SAll W) W [] [] [aU u, sA s, .agg [iA h0, iA h1]] [v0, .string (bs s), v2] := .cons _ _ _ _ _ _ hu (.cons _ _ _ _ _ _ (.str _ _ _ hs) (.cons _ _ _ _ _ _ hh (.nil _ _)))
  have early : callN Try.prog HH XT 1001 6 [aU u, sA s, .agg [iA h0, iA h1]] [] = some (.bool true, []) → Calls Try.prog 6 #[v0, .string (bs s), v2] W (LawOk W) := fun h1 => law_calls XT_sound h1 hargs
  obtain ⟨call, hcall⟩ : ∃ c, c = cN XT 1000 := ⟨_, rfl⟩
  have hcS : SoundCall Try.prog HH call := hcall ▸ cN_sound XT_sound 1000
  have hc : ∀ g l h, call false g l h = callN Try.prog HH XT 1000 g l h := fun g l h => by rw [hcall]
  clear hcall
  have F1 := (hc _ _ _).trans (ok_ref07_Light (n := 1000) (u := u) (r := lightU u) rfl)
  cases hlu : lightU u with
  | false =>
    refine early (callN_eq' Try.func6 (by rfl) rfl rfl (Nat.le_of_ble_eq_true rfl) ?_)
    intro call hc
    have F1 := (hc _ _ _).trans (ok_ref07_Light (n := 1000) (u := u) (r := lightU u) rfl)
    have G3 := (hc _ _ _).trans (ok_law12_known (n := 1000) (r := true) rfl)
    rw [hlu] at F1
    (conv => lhs; whnf)
    simp only [F1]
    (conv => lhs; whnf)
    simp only [G3]
    (conv => lhs; whnf)
    rfl
  | true =>
  rw [hlu] at F1
  cases hl5 : decide ((500 : Int) < ((s.length : Nat) : Int)) with
  | true =>
    refine early (callN_eq' Try.func6 (by rfl) rfl rfl (Nat.le_of_ble_eq_true rfl) ?_)
    intro call hc
    have F1 := (hc _ _ _).trans (ok_ref07_Light (n := 1000) (u := u) (r := lightU u) rfl)
    have G3 := (hc _ _ _).trans (ok_law12_known (n := 1000) (r := true) rfl)
    rw [hlu] at F1
    (conv => lhs; whnf)
    simp only [F1]
    (conv => lhs; whnf)
    simp only [hl5]
    (conv => lhs; whnf)
    simp only [G3]
    (conv => lhs; whnf)
    rfl
  | false =>
  have hs5 : s.length ≤ 500 := by have := of_decide_eq_false hl5; omega
  have hD3 : m_pack_Decode 1000 u s h0 h1 = some (decP u s h0 h1) := decode_m 1000 u s h0 h1 (by decide) (by omega)
  have F3 := (hc _ _ _).trans (ok_pack_Decode hD3)
  go_enter Try.func6, Try.ntmps6
  refine wp_seq ?_
  refine piece (call := call) (f := 6) (fuel := 1000) (tm := [aU u, sA s, .agg [iA h0, iA h1]] ++ List.replicate 48 .junk) mixed goodHH hcS (by kernel_rfl) (sim_all W) (Reps.append hargs (reps_junk (List.replicate 48 undef))) (hp1 := ?hp1) (tm1 := ?tm1) ?eq ?_
  case eq => (conv => lhs; whnf)
  intro S1 w1 φ1 a1 hs1 ht1 T1 d1
  refine wp_seq ?_
  refine piece (call := call) (f := 6) (fuel := 1000) mixed goodHH hcS (by kernel_rfl) hs1 ht1 (hp1 := ?hp2) (tm1 := ?tm2) ?eq ?_
  case eq =>
    (conv => lhs; whnf)
    simp only [F1]
    (conv => lhs; whnf)
    simp only [hl5]
    (conv => lhs; whnf)
  intro S2 w2 φ2 a2 hs2 ht2 T2 d2
  refine wp_seq ?_
  refine piece (call := call) (f := 6) (fuel := 1000) mixed goodHH hcS (by kernel_rfl) hs2 ht2 (hp1 := ?hp3) (tm1 := ?tm3) ?eq ?_
  case eq =>
    (conv => lhs; whnf)
    simp only [F3]
    (conv => lhs; whnf)
  intro S3 w3 φ3 a3 hs3 ht3 T3 d3
  clear F1 F3
  have hB3 := T1.below.trans (T2.below.trans T3.below)
  have hdf : a3.defers = [] := d3.trans (d2.trans d1)
  obtain ⟨bU, vsU, EU, hφU, hBU, hhU, hvU, hoU, hnU⟩ := hs3.obj 0 _ rfl
  obtain ⟨bH, vsH, EH, hφH, hBH, hhH, hvH, hoH, hnH⟩ := hs3.obj 1 _ rfl
  obtain ⟨bA, vsA, EA, hφA, hBA, hhA, hvA, hoA, hnA⟩ := hs3.obj 2 _ rfl
  have e1 := (show Rep S3 w3 _ φ3 (sA s) (a3.tmps.getD 1 undef) from reps_nth ht3 1).str_inv.1
  have e3 := at_ptr (show Rep S3 w3 _ φ3 (.ptr 0 0) (a3.tmps.getD 3 undef) from reps_nth ht3 3) hφU
  have e5 := at_ptr (show Rep S3 w3 _ φ3 (.ptr 1 0) (a3.tmps.getD 5 undef) from reps_nth ht3 5) hφH
  have e7 := at_ptr (show Rep S3 w3 _ φ3 (.ptr 2 0) (a3.tmps.getD 7 undef) from reps_nth ht3 7) hφA
  have e8 := (shut_int (show Rep S3 w3 _ φ3 (iA (decP u s h0 h1).2) (a3.tmps.getD 8 undef) from reps_nth ht3 8)).2
  have w8 : okI (decP u s h0 h1).2 := (show Rep S3 w3 _ φ3 (iA (decP u s h0 h1).2) (a3.tmps.getD 8 undef) from reps_nth ht3 8).int_inv.2
  have hsz : a3.tmps.size = 51 := by
    have := ht3.length
    rw [Array.length_toList] at this
    exact this.symm
  have HS3 := Lib.hid hs3
  clear ht3 ht2 ht1 hs1 hs2 hs3 T1 T2 T3 d1 d2 d3 early hhA hvA hoA hnA
  obtain ⟨tmps, df⟩ := a3
  obtain rfl : df = [] := hdf
  obtain ⟨t, htm⟩ := arrF51 tmps hsz
  dsimp only at e1 e3 e5 e7 e8 htm
  rw [htm] at e1 e3 e5 e7 e8
  replace e1 : t 1 = _ := e1
  replace e3 : t 3 = _ := e3
  replace e5 : t 5 = _ := e5
  replace e7 : t 7 = _ := e7
  replace e8 : t 8 = _ := e8
  rw [e1, e3, e5, e7, e8] at htm
  clear e1 e3 e5 e7 e8
  subst htm
  clear hsz
  obtain ⟨k1, c1, k2, c2, k3, c3, rfl, hRU⟩ := unit_cells hvU
  obtain ⟨rfl, hw0, hw1⟩ := two_cells hvH
  obtain ⟨n1, hn1⟩ : ∃ n, u.init.length = n := ⟨_, rfl⟩
  obtain ⟨n2, hn2⟩ : ∃ n, u.regs.length = n := ⟨_, rfl⟩
  obtain ⟨n3, hn3⟩ : ∃ n, u.code.length = n := ⟨_, rfl⟩
  rw [hn1, hn2, hn3] at hhU hRU
  have FU : Fresh w3 bU (.cells #[.int .i64 u.mod, .slice k1 n1 c1, .slice k2 n2 c2, .slice k3 n3 c3] EU) := hhU
  have FH : Fresh w3 bH (.cells #[.int .i64 h0, .int .i64 h1] EH) := hhH
  have y0 := (FU.open (k := 0) rfl).1; have y1 := (FU.open (k := 1) rfl).1; have y2 := (FU.open (k := 2) rfl).1; have y3 := (FU.open (k := 3) rfl).1
  have z0' := (FH.open (k := 0) rfl).1; have z1' := (FH.open (k := 1) rfl).1
  have hU3 : Rep (SAll w3) w3 [] [] (aU u) (.agg #[.int .i64 u.mod, .slice k1 n1 c1, .slice k2 n2 c2, .slice k3 n3 c3]) := Rep.mono (fun b o h => ⟨(HS3.out.cell b o h).elim fun v hv => ⟨v, hv.1⟩, rfl⟩) hRU (.refl _ _)
  have HF := Lib.hid (rdecode_all w3 _ u s h0 h1 hU3 hs5 hw0 hw1)
  have HB3 := Lib.hid hB3
  clear hU3 hRU hvU hvH hoU hoH hnU hnH hhU hhH FU FH hB3 hn1 hn2 hn3 hφU hφH
  refine wp_seq ?_
  go_wp2_with fail
  refine HF.out.mono ?_
  rintro e w4 ⟨hb4, vp, vr, vm, vb, xr, xb, rfl, hC⟩
  obtain ⟨p1, p2, p3, rfl⟩ := ownsR_form hC.pc
  obtain ⟨r1, r2, r3, rfl⟩ := ownsR_form hC.regs.own
  obtain ⟨m1, m2, m3, rfl⟩ := ownsR_form hC.mem
  obtain ⟨g1, g2, g3, rfl⟩ := ownsR_form hC.buf.own
  have HB4 := Lib.hid hb4; have HC4 := Lib.hid hC
  clear hb4 hC HF y0 y1 y2 y3 z0' z1'
  go_upto_region 5 with (fail)
  have hl := decP_light u s h0 h1
  have hrep := HC4.out.rep (S := fun b o => S3 b o ∨ (w3.heap.size ≤ b ∧ ∃ v, stay w4 b o = some v ∧ v.2.2 = (0, 0))) hl.2 (fun k cs E o h1 h2 _ h4 => .inr ⟨h1, (cs[o], none, (0, 0)), stay_at h2 (by simp [World.cell?, h2, h4]), rfl⟩)
  have hext : SExt S3 w3 (fun b o => S3 b o ∨ (w3.heap.size ≤ b ∧ ∃ v, stay w4 b o = some v ∧ v.2.2 = (0, 0))) w4 := fun b o h => ⟨.inl h, by
    obtain ⟨v, hv, _⟩ := HS3.out.cell b o h
    exact stay_heap (HB4.out.block b (stay_lt hv)) o⟩
  have hs4 := HS3.out.keep hext HB4.out.size (fun b o h => by
    rcases h with h | ⟨_, v, h1, h2⟩
    · obtain ⟨v, h1, h2⟩ := HS3.out.cell b o h
      exact ⟨v, (hext b o h).2.trans h1, h2⟩
    · exact ⟨v, h1, fun _ => h2⟩) (fun id b hb => by
    have hlt := (HS3.out.block_lt hb).2
    exact ⟨HB4.out.block b hlt, fun o => ⟨fun h => h.elim (fun h => h) (fun h => by omega), .inl⟩⟩)
  obtain ⟨ws, hws, hwo, hwe⟩ := hrep.agg_inv
  obtain rfl : ws = [.slice p1 p2 p3, .slice r1 r2 r3, .slice m1 m2 m3, .slice g1 g2 g3] := by
    injection hwe with hwe
    have := congrArg Array.toList hwe
    simpa using this.symm
  have hs5 := (hs4.alloc_obj [.slice p1 p2 p3, .slice r1 r2 r3, .slice m1 m2 m3, .slice g1 g2 g3] 31 31 (cellsC (decP u s h0 h1).1) (Reps.lift hws) hwo).1
  have hlen3 : φ3.length = 3 := HS3.out.len
  have G1 := (hc _ _ _).trans (ok_ref09_Same (same_m 1000 (decP u s h0 h1).1 (decP u s h0 h1).1 (by decide) hl.1))
  rw [beq_self_eq_true] at G1
  have G3 := (hc _ _ _).trans (ok_law12_known (n := 1000) (r := true) rfl)
  refine tail_by2 (call := call) (f := 6) (fuel := 1000) (tm := ((((List.replicate 51 AV.junk).set 7 (.ptr 2 0)).set 8 (iA (decP u s h0 h1).2)).set 9 (.ptr 3 0)).set 10 (iA (decP u s h0 h1).2)) mixed goodHH hcS (by kernel_rfl) (by kernel_rfl) hs5 ?_ rfl rfl ?_ (fun w' hb => ⟨rfl, ((HB3.out.trans (HB4.out.mono HB3.out.size)).alloc (by have := HB3.out.size; have := HB4.out.size; omega) _).trans hb⟩) (by assumption)
  · refine reps_at4 (.ptr _ _ 2 0 bA ?_) (.int _ _ _ _ w8) (.ptr _ _ 3 0 w4.heap.size ?_) (.int _ _ _ _ w8) rfl rfl rfl rfl rfl
    · rw [List.getElem?_append_left (by rw [hlen3]; decide)]; exact hφA
    · rw [List.getElem?_append_right (by rw [hlen3]; decide), hlen3]; rfl
  · (conv => lhs; whnf)
    simp only [G1]
    (conv => lhs; whnf)
    simp only [beq_self_eq_true]
    (conv => lhs; whnf)
    simp only [G3]
    (conv => lhs; whnf)
    rfl
end Go.Proofs.Ytejkhpgahnncnaa
end

