/- Parts of the proofs: what they lean on. Conditions: none. -/
import Derived.OrdersHeld
import Derived.StillTail
import Derived.Test.YtejkhpgahnncnaaPackSizesP2
section
namespace Go.Proofs.Ytejkhpgahnncnaa
open Go.RowKit
set_option linter.unusedVariables false
set_option linter.unusedSimpArgs false

section
variable {P : Program} {ops : Array Oper} {md : Region.Mode} {S : World → Prop}

abbrev Qn : Exit → Act → World → Prop := fun _ _ _ => False
theorem upon_Q {o : Oper} {a : Act} {w : World} {K : Act → World → Prop} {Q : Exit → Act → World → Prop} (h : o.wp P a w K Qn) : o.wp P a w K Q := by
  unfold Oper.wp at *
  generalize (execOp a.eval o).run P w = r at *
  cases r with
  | ok n w' =>
    cases n <;> simp only [Oper.upon] at h ⊢
    case value u => exact h
    case skip => exact h
    case defer d => exact h
    case enter f args =>
      refine Calls.mono h fun e w'' he => ?_
      cases e with
      | returned u => exact he
      | panicked c => exact he.elim
      | outgrown => obtain ⟨_, _, h⟩ := he; exact h.elim
    case row row args => exact h
  | halt x w' =>
    cases x <;> simp only [Oper.upon] at h ⊢
    all_goals exact h.elim
theorem wpOp_Q {i : Nat} {a : Act} {w : World} {K : Act → World → Prop} {Q : Exit → Act → World → Prop} (h : wpOp P ops Qn i K a w) : wpOp P ops Q i K a w := by
  unfold wpOp at *
  split
  · rename_i ho; simp only [ho] at h; exact h
  · rename_i o ho
    simp only [ho] at h
    split
    · rename_i hw
      simp only [hw, if_true] at h
      rcases h with h | ⟨_, _, _, h⟩
      · exact .inl (upon_Q h)
      · exact h.elim
    · rename_i hw
      simp only [hw] at h
      exact h
def hAny (P : Program) (md : Region.Mode) (ops : Array Oper) (S : World → Prop) (n : Nat) (L : Array Bool → Act → World → Prop) : Nat → Array Bool → Act → World → Prop
  | 0, listed, a, w => L listed a w
  | f + 1, listed, a, w =>
    Region.ready md ops listed ≠ [] ∧ ∀ i ∈ Region.ready md ops listed, i < n ∧ wpOp P ops Qn i (fun a' w' => S w' ∧ hAny P md ops S n L f (listed.setIfInBounds i true) a' w') a w
theorem wpAny_of_hhead {n g : Nat} {L : Array Bool → Act → World → Prop} {Q : Exit → Act → World → Prop} (hL : ∀ listed a w, L listed a w → wpAny P md ops Q g listed a w) :
    ∀ (f : Nat) (listed : Array Bool) (a : Act) (w : World), hAny P md ops S n L f listed a w → wpAny P md ops Q (f + g) listed a w
  | 0, listed, a, w, h => by rw [Nat.zero_add]; exact hL _ _ _ h
  | f + 1, listed, a, w, h => by
    rw [show f + 1 + g = (f + g) + 1 by omega]
    exact ⟨fun h0 => absurd h0 h.1, fun i hi => wpOp_mono (fun a' w' h' => wpAny_of_hhead hL f _ a' w' h'.2) (wpOp_Q (h.2 i hi).2)⟩
theorem hAny_first {n i : Nat} {oi : Oper} {v : Value} {L : Array Bool → Act → World → Prop} (hi : ops[i]? = some oi) (hsel : ∀ (j : Nat) (o : Oper) cs b, ops[j]? = some o → o.op ≠ .select cs b)
    (hs : Region.sinkB md ops n = true) (hc : Region.chainB md ops n = true) (hn : n < ops.size) (hin : i < n)
    (hdone : ∀ listed a w, L listed a w → ∀ j ∈ Region.ready md ops listed, n ≤ j) :
    ∀ (f : Nat) (listed : Array Bool) (a : Act) (w : World), HeadInv md ops n listed →
      (∀ j oj, ops[j]? = some oj → j ≠ i → listed.getD j true = false → (∀ e ∈ oj.after, Region.binds md e = true → e.on ≠ i) → oi.apart ops oj = true) →
      i ∈ Region.ready md ops listed → YieldsIf P ops S oi v a → S w →
      hAny P md ops S n L f (listed.setIfInBounds i true) (a.put oi.dst v) w → hAny P md ops S n L (f + 1) listed a w := by
  intro f
  induction f with
  | zero =>
    intro listed a w inv _ hr hy hS H
    have hun := (mem_ready.1 hr).1
    refine ⟨fun h => (by rw [h] at hr; cases hr), fun j hj => ?_⟩
    have hjn : j < n := by
      rcases Nat.lt_or_ge j n with h | h
      · exact h
      · exact absurd hj (tail_waits hs hc hn inv _ i rfl hin hun j h)
    refine ⟨hjn, ?_⟩
    by_cases hji : j = i
    · subst hji; exact hy.wpOp hi hS ⟨hS, H⟩
    · have := hdone _ _ _ H j (ready_mono hj hji)
      omega
  | succ f ih =>
    intro listed a w inv hfree hr hy hS H
    have hun := (mem_ready.1 hr).1
    refine ⟨fun h => (by rw [h] at hr; cases hr), fun j hj => ?_⟩
    have hjn : j < n := by
      rcases Nat.lt_or_ge j n with h | h
      · exact h
      · exact absurd hj (tail_waits hs hc hn inv _ i rfl hin hun j h)
    refine ⟨hjn, ?_⟩
    by_cases hji : j = i
    · subst hji; exact hy.wpOp hi hS ⟨hS, H⟩
    · have h1 := (H.2 j (ready_mono hj hji)).2
      obtain ⟨hjun, oj, hoj, hall⟩ := mem_ready.1 hj
      have hnot : ∀ e ∈ oj.after, Region.binds md e = true → e.on ≠ i := fun e he hb heq => by
        have h1 := hall e he hb
        rw [heq, getD_both hun] at h1
        cases h1
      have h2 := wpOp_putIf hoj (hfree j oj hoj hji hjun hnot) (fun cs b => hsel i oi cs b hi) (fun cs b => hsel j oj cs b hoj) (fun _ _ _ h => h) hy h1
      have hfree' : ∀ k ok, ops[k]? = some ok → k ≠ i → (listed.setIfInBounds j true).getD k true = false →
          (∀ e ∈ ok.after, Region.binds md e = true → e.on ≠ i) → oi.apart ops ok = true := fun k ok hk hki hun hno => by
        refine hfree k ok hk hki ?_ hno
        by_cases hjk : j = k
        · subst hjk; exact hjun
        · rw [getD_set_ne true hjk] at hun; exact hun
      refine wpOp_mono (fun a' w' h3 => ⟨h3.2.1, ih (listed.setIfInBounds j true) a' w' (inv.set hj hjn) hfree' (ready_mono hr (Ne.symm hji)) h3.1 h3.2.1 ?_⟩) h2
      rw [Array.setIfInBounds_comm _ _ hji]
      exact h3.2.2

/-- The walk, in an order that is handed in: true: taken first; false: the only one that may come up. -/
def wpHeld (P : Program) (ops : Array Oper) (S : World → Prop) (Q : Act → World → Prop) : List (Nat × Bool) → Act → World → Prop
  | [], a, w => Q a w
  | (k, true) :: l, a, w => match ops[k]? with
    | none => False
    | some o => ∃ v, YieldsIf P ops S o v a ∧ wpHeld P ops S Q l (a.put o.dst v) w
  | (k, false) :: l, a, w => match ops[k]? with
    | none => False
    | some o => Region.wanted o (yielded ops a.tmps) = true ∧ o.wp P a w (fun a' w' => S w' ∧ wpHeld P ops S Q l a' w') Qn
def ordH (md : Region.Mode) (ops : Array Oper) (g n : Nat) : List (Nat × Bool) → Array Bool → Bool
  | [], listed => Region.seqB md ops g n listed
  | (k, true) :: l, listed => (Region.ready md ops listed).contains k && decide (k < n) && Region.free md ops listed k && ordH md ops g n l (listed.setIfInBounds k true)
  | (k, false) :: l, listed => (Region.ready md ops listed == [k]) && decide (k < n) && ordH md ops g n l (listed.setIfInBounds k true)
theorem hAny_ord {n g : Nat} {Lq : Act → World → Prop} (hsel : Region.noSelect ops = true) (hs : Region.sinkB md ops n = true) (hc : Region.chainB md ops n = true) (hn : n < ops.size) :
    ∀ (l : List (Nat × Bool)) (listed : Array Bool) (a : Act) (w : World), S w → HeadInv md ops n listed → ordH md ops g n l listed = true → wpHeld P ops S Lq l a w →
    hAny P md ops S n (fun listed' a' w' => Region.seqB md ops g n listed' = true ∧ Lq a' w') l.length listed a w
  | [], listed, a, w, hS, inv, hB, h => ⟨hB, h⟩
  | (k, true) :: l, listed, a, w, hS, inv, hB, h => by
    simp only [ordH, Bool.and_eq_true, decide_eq_true_eq] at hB
    obtain ⟨⟨⟨hrd, hkn⟩, hf⟩, hB'⟩ := hB
    have hr' : k ∈ Region.ready md ops listed := by simpa using hrd
    unfold wpHeld at h
    cases h0 : ops[k]? with
    | none => rw [h0] at h; exact h.elim
    | some o =>
      rw [h0] at h
      obtain ⟨v, hy, hK⟩ := h
      exact hAny_first h0 (Region.noSelect_spec hsel) hs hc hn hkn (fun listed' a' w' hL => seqB_ready hL.1) l.length listed a w inv (Region.free_spec h0 hf) hr' hy hS
        (hAny_ord hsel hs hc hn l _ _ _ hS (inv.set hr' hkn) hB' hK)
  | (k, false) :: l, listed, a, w, hS, inv, hB, h => by
    simp only [ordH, Bool.and_eq_true, decide_eq_true_eq, beq_iff_eq] at hB
    obtain ⟨⟨hrd, hkn⟩, hB'⟩ := hB
    have hr' : k ∈ Region.ready md ops listed := by rw [hrd]; simp
    unfold wpHeld at h
    cases h0 : ops[k]? with
    | none => rw [h0] at h; exact h.elim
    | some o =>
      rw [h0] at h
      obtain ⟨hwt, hK⟩ := h
      refine ⟨by rw [hrd]; simp, fun j hj => ?_⟩
      rw [hrd] at hj
      obtain rfl : j = k := by simpa using hj
      refine ⟨hkn, ?_⟩
      unfold wpOp
      simp only [h0, hwt, if_true]
      exact .inl (Oper.wp_mono (fun a' w' h' => ⟨h'.1, hAny_ord hsel hs hc hn l _ _ _ h'.1 (inv.set hr' hkn) hB' h'.2⟩) hK)
theorem wp_region_heldT {id : Nat} {Q : Exit → Act → World → Prop} {a : Act} {w : World} {l : List Oper} (n : Nat) (ord : List (Nat × Bool)) (S : World → Prop) (hm : P.follows .mixedOrders = true)
    (hB : (Region.noSelect l.toArray && decide (n < l.toArray.size) && decide (ord.length = n) && Region.sinkB .any l.toArray n && Region.chainB .any l.toArray n && ordH .any l.toArray (l.toArray.size - n) n ord (Array.replicate l.toArray.size false)) = true)
    (hS : S w.drew) (h : ∀ wd : World, wd.heap = w.heap → Below w.heap.size w wd → wpHeld P l.toArray S (fun a' w' => wpList P l.toArray Q (l.drop n) a' w') ord a wd) : (Code.region id l.toArray true).wp P Q a w := by
  simp only [Bool.and_eq_true, decide_eq_true_eq] at hB
  obtain ⟨⟨⟨⟨⟨hsel, hn⟩, hol⟩, hs⟩, hc⟩, hlex⟩ := hB
  have hdl : (l.drop n).length = l.toArray.size - n := by simp
  have inv0 : HeadInv .any l.toArray n (Array.replicate l.toArray.size false) :=
    ⟨by simp, fun j oj _ hl => (by rw [getD_replicate_false] at hl; cases hl), fun t _ ht => getD_in (by simpa using ht) (getD_replicate_false _ _)⟩
  have H := hAny_ord (P := P) (md := .any) (g := l.toArray.size - n) hsel hs hc hn ord _ a w.drew hS inv0 hlex (h w.drew rfl (Below.refl _ _).drew)
  refine wp_region_any hm ?_
  have := wpAny_of_hhead (md := .any) (Q := Q) (g := l.toArray.size - n) (fun listed a' w' hL => by
    obtain ⟨hseq, hq⟩ := hL
    have := wpAny_of_seq (md := .any) (Q' := Q) (l.drop n) n listed a' w' (fun j => by simp [List.getElem?_drop]) (by rw [hdl]; exact hseq) hq
    rwa [hdl] at this) _ _ _ _ H
  rw [hol, show n + (l.toArray.size - n) = l.toArray.size by omega] at this
  exact this
theorem wpHeld_nil {Q : Act → World → Prop} {a : Act} {w : World} (h : Q a w) : wpHeld P ops S Q [] a w := h
theorem wpHeld_w {Q : Act → World → Prop} {k : Nat} {l : List (Nat × Bool)} {a : Act} {w : World} {o : Oper} (ho : ops[k]? = some o) (hw : Region.wanted o (yielded ops a.tmps) = true) (v : Value)
    (h1 : ∀ w', S w' → (execOp a.eval o).run P w' = .ok (.value v) w') (h : ∀ K : Act → Prop, (∀ a, wpHeld P ops S Q l a w → K a) → K (a.put o.dst v)) : wpHeld P ops S Q ((k, true) :: l) a w := by
  have := h _ (fun _ h => h)
  unfold wpHeld
  simp only [ho]
  exact ⟨v, .inl ⟨hw, h1⟩, this⟩
theorem wpHeld_s {Q : Act → World → Prop} {k : Nat} {l : List (Nat × Bool)} {a : Act} {w : World} {o : Oper} (ho : ops[k]? = some o) (hw : Region.wanted o (yielded ops a.tmps) = true)
    (h : ∀ K : Act → World → Prop, (∀ a w, S w → wpHeld P ops S Q l a w → K a w) → o.wp P a w K Qn) : wpHeld P ops S Q ((k, false) :: l) a w := by
  unfold wpHeld
  simp only [ho]
  exact ⟨hw, h _ fun a w h1 h2 => ⟨h1, h2⟩⟩
end
end Go.Proofs.Ytejkhpgahnncnaa
end

section
namespace Go.Proofs.Ytejkhpgahnncnaa
set_option linter.unusedVariables false
set_option linter.unusedSimpArgs false

theorem nextP_app {s : List UInt8} {bad : Bool} (t : List UInt8) (h : (nextP s bad).2.2 = false) : nextP (s ++ t) bad = ((nextP s bad).1, (nextP s bad).2.1 ++ t, false) := by
  cases s with
  | nil => cases h
  | cons b s =>
    have h : bad = false := h
    subst h
    rfl
theorem rowP_app (t : List UInt8) : ∀ (m : Nat) {s : List UInt8} {bad : Bool}, (rowP m s bad).2.2 = false → rowP m (s ++ t) bad = ((rowP m s bad).1, (rowP m s bad).2.1 ++ t, false)
  | 0, s, bad, h => by
    have h : bad = false := h
    subst h
    rfl
  | m + 1, s, bad, h => by
    have h1 : (rowP m (nextP s bad).2.1 (nextP s bad).2.2).2.2 = false := h
    have h2 := (rowP_ok m h1).1
    have h3 := rowP_app t m h1
    rw [h2] at h3
    simp only [rowP, nextP_app t h2, h3, h2]
theorem entsP_app (t : List UInt8) : ∀ (m : Nat) {s : List UInt8} {bad : Bool}, (entsP m s bad).2.2 = false → entsP m (s ++ t) bad = ((entsP m s bad).1, (entsP m s bad).2.1 ++ t, false)
  | 0, s, bad, h => by
    have h : bad = false := h
    subst h
    rfl
  | m + 1, s, bad, h => by
    have h1 : (entsP m (nextP (nextP s bad).2.1 (nextP s bad).2.2).2.1 (nextP (nextP s bad).2.1 (nextP s bad).2.2).2.2).2.2 = false := h
    have h2 := (entsP_ok m h1).1
    have h4 := (nextP_ok h2).1
    have h3 := entsP_app t m h1
    have h5 := nextP_app t h2
    rw [h2] at h3
    rw [h4] at h5 h3 h2
    simp only [entsP, nextP_app t h4, h5, h3, h4, h2]
theorem thrP_app (t : List UInt8) {m : Nat} {s : List UInt8} {bad : Bool} (h : (thrP m s bad).2.2 = false) : thrP m (s ++ t) bad = ((thrP m s bad).1, (thrP m s bad).2.1 ++ t, false) := by
  simp only [thrP] at h ⊢
  have h1 := (entsP_ok _ h).1
  have h2 := (nextP_ok h1).1
  have h3 := (rowP_ok _ h2).1
  have h4 := (nextP_ok h3).1
  have e1 := nextP_app t h4
  have e2 := nextP_app t h3
  rw [h4] at e2
  have e3 := rowP_app t _ h2
  rw [h3] at e3
  have e4 := nextP_app t h1
  rw [h2] at e4
  have e5 := entsP_app t _ h
  rw [h1] at e5
  rw [h4] at e3 e4 e5 ⊢
  rw [h4] at h3
  rw [h3] at e4 e5 ⊢
  rw [h4, h3] at h2
  rw [h2] at e5 ⊢
  rw [h4, h3, h2] at h1
  simp only [e1, e2, e3, e4, e5, h1]
theorem thrsP_app (t : List UInt8) : ∀ (ms : List Int) {s : List UInt8} {bad : Bool}, (thrsP ms s bad).2.2 = false → thrsP ms (s ++ t) bad = ((thrsP ms s bad).1, (thrsP ms s bad).2.1 ++ t, false)
  | [], s, bad, h => by
    have h : bad = false := h
    subst h
    rfl
  | m :: ms, s, bad, h => by
    have h1 : (thrsP ms (thrP m.toNat s bad).2.1 (thrP m.toNat s bad).2.2).2.2 = false := h
    have h2 := (thrsP_ok ms h1).1
    have h3 := thrsP_app t ms h1
    rw [h2] at h3
    simp only [thrsP, thrP_app t h2, h3, h2]
theorem confP_app (t : List UInt8) {u : UnitS} {s : List UInt8} (h : (confP u s).2.2 = false) : confP u (s ++ t) = ((confP u s).1, (confP u s).2.1 ++ t, false) := by
  simp only [confP] at h ⊢
  have h2 := (rowP_ok _ h).1
  have e1 := thrsP_app t _ h2
  have e2 := rowP_app t _ h
  rw [h2] at e2
  rw [h2] at h
  simp only [e1, e2, h2]

theorem dec_more (u : UnitS) (c : ConfS) (model room : Int) (hu : rightU u = true) (hc : confOk u c model room = true) (hl : LightC c) (hbf : ∀ i (hi : i < c.buf.length), c.buf[i].length ≤ 255) (n : Nat) (hn : 450 < n) : m_pack_Decode n u (encB c ++ [0]) model room = some (zeroC, 8) := by
  obtain ⟨hev, _, _⟩ := even_of hc
  obtain ⟨s1, s2⟩ := hl.sums
  have := hl.pc; have := hl.mem
  have hlen : (encB c ++ [0]).length ≤ 1000000 := by rw [List.length_append, encB_len hev, sizeC]; simp; omega
  have he := confP_encB hu hc hbf
  have h2 : (confP u (encB c)).2.2 = false := by rw [he]
  rw [decode_m n u _ model room hn hlen, confP_app _ h2, he]
  rw [if_neg]
  intro h
  simp at h
theorem dec_less (u : UnitS) (c : ConfS) (model room : Int) (hu : rightU u = true) (hc : confOk u c model room = true) (hl : LightC c) (hbf : ∀ i (hi : i < c.buf.length), c.buf[i].length ≤ 255) (h0 : encB c ≠ []) (n : Nat) (hn : 450 < n) : m_pack_Decode n u (encB c).dropLast model room = some (zeroC, 8) := by
  obtain ⟨hev, _, _⟩ := even_of hc
  obtain ⟨s1, s2⟩ := hl.sums
  have := hl.pc; have := hl.mem
  have hlen : (encB c).dropLast.length ≤ 1000000 := by rw [List.length_dropLast, encB_len hev, sizeC]; omega
  have he := confP_encB hu hc hbf
  rw [decode_m n u _ model room hn hlen, if_neg]
  intro h
  simp only [Bool.and_eq_true, Bool.not_eq_true', beq_iff_eq] at h
  obtain ⟨_, h1, h2, _⟩ := h
  have h3 := confP_app [(encB c).getLast h0] h1
  rw [List.dropLast_concat_getLast h0, he, h2] at h3
  simp at h3
/-- A configuration with a store more. -/
def moreC (c : ConfS) (b : List EntryS) : ConfS := { c with buf := c.buf.set 0 (b ++ [⟨0, 0⟩]) }
theorem moreC_light {c : ConfS} (hl : LightC c) (hbf : ∀ i (hi : i < c.buf.length), c.buf[i].length ≤ 255) {b : List EntryS} (hb : c.buf[0]? = some b) : LightC (moreC c b) := by
  refine ⟨hl.pc, hl.mem, hl.regsN, by simp only [moreC, List.length_set]; exact hl.bufN, hl.regs, fun i hi => ?_⟩
  have hi' : i < c.buf.length := by simpa [moreC] using hi
  simp only [moreC]
  rw [List.getElem_set]
  split
  · subst_vars
    obtain ⟨h0, rfl⟩ := List.getElem?_eq_some_iff.1 hb
    have := hbf 0 h0
    simp; omega
  · have := hbf i hi'; omega
theorem moreC_size {c : ConfS} {b : List EntryS} (hb : c.buf[0]? = some b) : sizeC (moreC c b) = sizeC c + 2 := by
  obtain ⟨pc, regs, mem, buf⟩ := c
  cases buf with
  | nil => cases hb
  | cons x l =>
    obtain rfl : x = b := by simpa using hb
    simp only [moreC, sizeC, sumL, List.set_cons_zero]
    simp
    omega
end Go.Proofs.Ytejkhpgahnncnaa
end

section
namespace Go.Proofs.Ytejkhpgahnncnaa
open Go.RowKit
set_option linter.unusedVariables false
set_option linter.unusedSimpArgs false

/-- A piece of a function's code, by the interpreter. -/
theorem piece {P : Program} {H : Hints} {call : CallT} {f : FuncId} {fuel base : Nat} (hm : P.follows .mixedOrders = true) (hH : GoodH P H) (hc : SoundCall P H call) {c : Code} (hd : drawsC H f c = true)
    {S : Nat → Nat → Prop} {W : World} {hp : Hp} {φ : List Pl} {tm : Tm} {A : Act} (hs : Sim P base S W hp φ) (ht : Reps S W hp φ tm A.tmps.toList) {tm1 : Tm} {hp1 : Hp}
    (h : runC P H call f fuel hp.length c tm hp (fun e tm hp' => match e with
      | .normal => forceL force (fun tm => forceHp (fun hp => some (tm, hp)) hp') tm
      | _ => none) = some (tm1, hp1))
    {K : Act → World → Prop} {Q : Exit → Act → World → Prop} (hK : ∀ S' w' φ' a', Sim P base S' w' hp1 φ' → Reps S' w' hp1 φ' tm1 a'.tmps.toList → Trans base S W hp φ S' w' hp1 φ' → a'.defers = A.defers → K a' w') : c.wp P (Exit.then K Q) A W := by
  refine runC_sound hm hH hc hs c hd (.refl _ _ _ _ _) hs ht h ?_
  intro e tm' hp' S' φ' a' w' g1 g2 g3 g4 g5
  cases e with
  | exit id => cases g1
  | ret => cases g1
  | normal =>
    simp only [forceL_eq force_eq, forceHp_eq] at g1
    cases g1
    exact hK _ _ _ _ g3 g2 g4 g5
/-- The rest of a law's code, by the interpreter. -/
theorem tail_by2 {P : Program} {H : Hints} {call : CallT} {f : FuncId} {fuel base : Nat} (hm : P.follows .mixedOrders = true) (hH : GoodH P H) (hc : SoundCall P H call) {c1 c2 : Code} (hd1 : drawsC H f c1 = true) (hd2 : drawsC H f c2 = true)
    {S : Nat → Nat → Prop} {W : World} {hp : Hp} {φ : List Pl} {tm : Tm} {A : Act} (hs : Sim P base S W hp φ) (ht : Reps S W hp φ tm A.tmps.toList) (hdef : A.defers = []) {fn : Func} {r : Nat} (hres : fn.results = #[.tmp r])
    (h : runC P H call f fuel hp.length c1 tm hp (fun e tm hp' => match e with
      | .normal => runC P H call f fuel hp.length c2 tm hp' (fun e tm hp' => match e with
        | .exit _ => none
        | _ => some (nth .junk tm r))
      | _ => none) = some (AV.bool true))
    {R : Ending → World → Prop} (hR : ∀ w', Below base W w' → R (.returned (.bool true)) w')
    {K1 : Act → World → Prop} (hK : ∀ a w, c2.wp P (bodyPost P fn R) a w → K1 a w) : c1.wp P (Exit.then K1 (bodyPost P fn R)) A W := by
  refine runC_sound hm hH hc hs c1 hd1 (.refl _ _ _ _ _) hs ht h ?_
  intro e tm' hp' S' φ' a' w' g1 g2 g3 g4 g5
  cases e with
  | exit id => cases g1
  | ret => cases g1
  | normal =>
    refine hK _ _ (runC_sound hm hH hc hs c2 hd2 g4 g3 g2 g1 ?_)
    intro e tm'' hp'' S'' φ'' a'' w'' k1 k2 k3 k4 k5
    have fin : some (nth .junk tm'' r) = some (AV.bool true) → a''.defers = [] ∧ ∃ v, (results fn a''.tmps).run P w'' = .ok v w'' ∧ R (.returned v) w'' := by
      intro hx
      have hr := ev_rep k2 (.tmp r)
      have hx' : ev tm'' (.tmp r) = AV.bool true := Option.some.inj hx
      rw [hx'] at hr
      refine ⟨k5.trans (g5.trans hdef), _, results_tmp hres _ _ _, ?_⟩
      have := hr.bool_inv
      rw [show a''.tmps.getD r undef = .bool true from this]
      exact hR _ k4.below
    cases e with
    | exit id => cases k1
    | normal => exact fin k1
    | ret => exact fin k1
theorem reps_nth {S : Nat → Nat → Prop} {w : World} {hp : Hp} {φ : List Pl} {tm : Tm} {a : Act} (h : Reps S w hp φ tm a.tmps.toList) (i : Nat) : Rep S w hp φ (nth .junk tm i) (a.tmps.getD i undef) := ev_rep h (.tmp i)
theorem shut_sl {S : Nat → Nat → Prop} {w : World} {hp : Hp} {φ : List Pl} {size : Nat} {els : List (List AV)} {v : Value} (h : Rep S w hp φ (.sl size els) v) : Rep S w [] [] (.sl size els) v ∧ ∃ a c, v = .slice a els.length c := by
  cases h
  exact ⟨.sl _ _ _ _ _ _ _ ‹_› ‹_› ‹_›, _, _, rfl⟩
theorem shut_int {S : Nat → Nat → Prop} {w : World} {hp : Hp} {φ : List Pl} {k : IntKind} {n : Int} {v : Value} (h : Rep S w hp φ (.int k n) v) : Rep S w [] [] (.int k n) v ∧ v = .int k n := by
  cases h
  exact ⟨.int _ _ _ _ ‹_›, rfl⟩
theorem at_ptr {S : Nat → Nat → Prop} {w : World} {hp : Hp} {φ : List Pl} {id off b : Nat} {v : Value} (h : Rep S w hp φ (.ptr id off) v) (hb : φ[id]? = some (.blk b)) : v = .pointer (some ⟨b, off, none⟩) := by
  cases h with
  | ptr _ _ _ _ b' h => rw [hb] at h; cases h; rfl
theorem reps_at4 {S : Nat → Nat → Prop} {w : World} {hp : Hp} {φ : List Pl} {i j k l n : Nat} {a b c d : AV} {u v x y : Value} {L : List Value} (ha : Rep S w hp φ a u) (hb : Rep S w hp φ b v) (hc : Rep S w hp φ c x) (hd : Rep S w hp φ d y) (hi : L[i]? = some u) (hj : L[j]? = some v) (hk : L[k]? = some x) (hl : L[l]? = some y) (hn : L.length = n) : Reps S w hp φ (((((List.replicate n AV.junk).set i a).set j b).set k c).set l d) L := by
  subst hn
  have := ((((reps_junk (S := S) (w := w) (hp := hp) (φ := φ) L).set i ha).set j hb).set k hc).set l hd
  rwa [set_self hi, set_self hj, set_self hk, set_self hl] at this
end Go.Proofs.Ytejkhpgahnncnaa
end

section
namespace Go.Proofs.Ytejkhpgahnncnaa
theorem uncons_len {α : Type} {n : Nat} (l : List α) (h : l.length = n + 1) : ∃ x t, l = x :: t ∧ t.length = n := by
  cases l with
  | nil => cases h
  | cons x t => exact ⟨x, t, rfl, by simpa using h⟩
set_option maxRecDepth 100000 in
theorem arrF106 (a : Array Value) (h : a.size = 106) : ∃ f : Nat → Value, a = #[f 0, f 1, f 2, f 3, f 4, f 5, f 6, f 7, f 8, f 9, f 10, f 11, f 12, f 13, f 14, f 15, f 16, f 17, f 18, f 19, f 20, f 21, f 22, f 23, f 24, f 25, f 26, f 27, f 28, f 29, f 30, f 31, f 32, f 33, f 34, f 35, f 36, f 37, f 38, f 39, f 40, f 41, f 42, f 43, f 44, f 45, f 46, f 47, f 48, f 49, f 50, f 51, f 52, f 53, f 54, f 55, f 56, f 57, f 58, f 59, f 60, f 61, f 62, f 63, f 64, f 65, f 66, f 67, f 68, f 69, f 70, f 71, f 72, f 73, f 74, f 75, f 76, f 77, f 78, f 79, f 80, f 81, f 82, f 83, f 84, f 85, f 86, f 87, f 88, f 89, f 90, f 91, f 92, f 93, f 94, f 95, f 96, f 97, f 98, f 99, f 100, f 101, f 102, f 103, f 104, f 105] := by
  obtain ⟨l⟩ := a
  have h0 : l.length = 106 := h
  clear h
  obtain ⟨x0, l0, rfl, h1⟩ := uncons_len l h0
  obtain ⟨x1, l1, rfl, h2⟩ := uncons_len l0 h1
  obtain ⟨x2, l2, rfl, h3⟩ := uncons_len l1 h2
  obtain ⟨x3, l3, rfl, h4⟩ := uncons_len l2 h3
  obtain ⟨x4, l4, rfl, h5⟩ := uncons_len l3 h4
  obtain ⟨x5, l5, rfl, h6⟩ := uncons_len l4 h5
  obtain ⟨x6, l6, rfl, h7⟩ := uncons_len l5 h6
  obtain ⟨x7, l7, rfl, h8⟩ := uncons_len l6 h7
  obtain ⟨x8, l8, rfl, h9⟩ := uncons_len l7 h8
  obtain ⟨x9, l9, rfl, h10⟩ := uncons_len l8 h9
  obtain ⟨x10, l10, rfl, h11⟩ := uncons_len l9 h10
  obtain ⟨x11, l11, rfl, h12⟩ := uncons_len l10 h11
  obtain ⟨x12, l12, rfl, h13⟩ := uncons_len l11 h12
  obtain ⟨x13, l13, rfl, h14⟩ := uncons_len l12 h13
  obtain ⟨x14, l14, rfl, h15⟩ := uncons_len l13 h14
  obtain ⟨x15, l15, rfl, h16⟩ := uncons_len l14 h15
  obtain ⟨x16, l16, rfl, h17⟩ := uncons_len l15 h16
  obtain ⟨x17, l17, rfl, h18⟩ := uncons_len l16 h17
  obtain ⟨x18, l18, rfl, h19⟩ := uncons_len l17 h18
  obtain ⟨x19, l19, rfl, h20⟩ := uncons_len l18 h19
  obtain ⟨x20, l20, rfl, h21⟩ := uncons_len l19 h20
  obtain ⟨x21, l21, rfl, h22⟩ := uncons_len l20 h21
  obtain ⟨x22, l22, rfl, h23⟩ := uncons_len l21 h22
  obtain ⟨x23, l23, rfl, h24⟩ := uncons_len l22 h23
  obtain ⟨x24, l24, rfl, h25⟩ := uncons_len l23 h24
  obtain ⟨x25, l25, rfl, h26⟩ := uncons_len l24 h25
  obtain ⟨x26, l26, rfl, h27⟩ := uncons_len l25 h26
  obtain ⟨x27, l27, rfl, h28⟩ := uncons_len l26 h27
  obtain ⟨x28, l28, rfl, h29⟩ := uncons_len l27 h28
  obtain ⟨x29, l29, rfl, h30⟩ := uncons_len l28 h29
  obtain ⟨x30, l30, rfl, h31⟩ := uncons_len l29 h30
  obtain ⟨x31, l31, rfl, h32⟩ := uncons_len l30 h31
  obtain ⟨x32, l32, rfl, h33⟩ := uncons_len l31 h32
  obtain ⟨x33, l33, rfl, h34⟩ := uncons_len l32 h33
  obtain ⟨x34, l34, rfl, h35⟩ := uncons_len l33 h34
  obtain ⟨x35, l35, rfl, h36⟩ := uncons_len l34 h35
  obtain ⟨x36, l36, rfl, h37⟩ := uncons_len l35 h36
  obtain ⟨x37, l37, rfl, h38⟩ := uncons_len l36 h37
  obtain ⟨x38, l38, rfl, h39⟩ := uncons_len l37 h38
  obtain ⟨x39, l39, rfl, h40⟩ := uncons_len l38 h39
  obtain ⟨x40, l40, rfl, h41⟩ := uncons_len l39 h40
  obtain ⟨x41, l41, rfl, h42⟩ := uncons_len l40 h41
  obtain ⟨x42, l42, rfl, h43⟩ := uncons_len l41 h42
  obtain ⟨x43, l43, rfl, h44⟩ := uncons_len l42 h43
  obtain ⟨x44, l44, rfl, h45⟩ := uncons_len l43 h44
  obtain ⟨x45, l45, rfl, h46⟩ := uncons_len l44 h45
  obtain ⟨x46, l46, rfl, h47⟩ := uncons_len l45 h46
  obtain ⟨x47, l47, rfl, h48⟩ := uncons_len l46 h47
  obtain ⟨x48, l48, rfl, h49⟩ := uncons_len l47 h48
  obtain ⟨x49, l49, rfl, h50⟩ := uncons_len l48 h49
  obtain ⟨x50, l50, rfl, h51⟩ := uncons_len l49 h50
  obtain ⟨x51, l51, rfl, h52⟩ := uncons_len l50 h51
  obtain ⟨x52, l52, rfl, h53⟩ := uncons_len l51 h52
  obtain ⟨x53, l53, rfl, h54⟩ := uncons_len l52 h53
  obtain ⟨x54, l54, rfl, h55⟩ := uncons_len l53 h54
  obtain ⟨x55, l55, rfl, h56⟩ := uncons_len l54 h55
  obtain ⟨x56, l56, rfl, h57⟩ := uncons_len l55 h56
  obtain ⟨x57, l57, rfl, h58⟩ := uncons_len l56 h57
  obtain ⟨x58, l58, rfl, h59⟩ := uncons_len l57 h58
  obtain ⟨x59, l59, rfl, h60⟩ := uncons_len l58 h59
  obtain ⟨x60, l60, rfl, h61⟩ := uncons_len l59 h60
  obtain ⟨x61, l61, rfl, h62⟩ := uncons_len l60 h61
  obtain ⟨x62, l62, rfl, h63⟩ := uncons_len l61 h62
  obtain ⟨x63, l63, rfl, h64⟩ := uncons_len l62 h63
  obtain ⟨x64, l64, rfl, h65⟩ := uncons_len l63 h64
  obtain ⟨x65, l65, rfl, h66⟩ := uncons_len l64 h65
  obtain ⟨x66, l66, rfl, h67⟩ := uncons_len l65 h66
  obtain ⟨x67, l67, rfl, h68⟩ := uncons_len l66 h67
  obtain ⟨x68, l68, rfl, h69⟩ := uncons_len l67 h68
  obtain ⟨x69, l69, rfl, h70⟩ := uncons_len l68 h69
  obtain ⟨x70, l70, rfl, h71⟩ := uncons_len l69 h70
  obtain ⟨x71, l71, rfl, h72⟩ := uncons_len l70 h71
  obtain ⟨x72, l72, rfl, h73⟩ := uncons_len l71 h72
  obtain ⟨x73, l73, rfl, h74⟩ := uncons_len l72 h73
  obtain ⟨x74, l74, rfl, h75⟩ := uncons_len l73 h74
  obtain ⟨x75, l75, rfl, h76⟩ := uncons_len l74 h75
  obtain ⟨x76, l76, rfl, h77⟩ := uncons_len l75 h76
  obtain ⟨x77, l77, rfl, h78⟩ := uncons_len l76 h77
  obtain ⟨x78, l78, rfl, h79⟩ := uncons_len l77 h78
  obtain ⟨x79, l79, rfl, h80⟩ := uncons_len l78 h79
  obtain ⟨x80, l80, rfl, h81⟩ := uncons_len l79 h80
  obtain ⟨x81, l81, rfl, h82⟩ := uncons_len l80 h81
  obtain ⟨x82, l82, rfl, h83⟩ := uncons_len l81 h82
  obtain ⟨x83, l83, rfl, h84⟩ := uncons_len l82 h83
  obtain ⟨x84, l84, rfl, h85⟩ := uncons_len l83 h84
  obtain ⟨x85, l85, rfl, h86⟩ := uncons_len l84 h85
  obtain ⟨x86, l86, rfl, h87⟩ := uncons_len l85 h86
  obtain ⟨x87, l87, rfl, h88⟩ := uncons_len l86 h87
  obtain ⟨x88, l88, rfl, h89⟩ := uncons_len l87 h88
  obtain ⟨x89, l89, rfl, h90⟩ := uncons_len l88 h89
  obtain ⟨x90, l90, rfl, h91⟩ := uncons_len l89 h90
  obtain ⟨x91, l91, rfl, h92⟩ := uncons_len l90 h91
  obtain ⟨x92, l92, rfl, h93⟩ := uncons_len l91 h92
  obtain ⟨x93, l93, rfl, h94⟩ := uncons_len l92 h93
  obtain ⟨x94, l94, rfl, h95⟩ := uncons_len l93 h94
  obtain ⟨x95, l95, rfl, h96⟩ := uncons_len l94 h95
  obtain ⟨x96, l96, rfl, h97⟩ := uncons_len l95 h96
  obtain ⟨x97, l97, rfl, h98⟩ := uncons_len l96 h97
  obtain ⟨x98, l98, rfl, h99⟩ := uncons_len l97 h98
  obtain ⟨x99, l99, rfl, h100⟩ := uncons_len l98 h99
  obtain ⟨x100, l100, rfl, h101⟩ := uncons_len l99 h100
  obtain ⟨x101, l101, rfl, h102⟩ := uncons_len l100 h101
  obtain ⟨x102, l102, rfl, h103⟩ := uncons_len l101 h102
  obtain ⟨x103, l103, rfl, h104⟩ := uncons_len l102 h103
  obtain ⟨x104, l104, rfl, h105⟩ := uncons_len l103 h104
  obtain ⟨x105, l105, rfl, h106⟩ := uncons_len l104 h105
  have : l105 = [] := List.eq_nil_of_length_eq_zero h106
  subst this
  exact ⟨fun i => #[x0, x1, x2, x3, x4, x5, x6, x7, x8, x9, x10, x11, x12, x13, x14, x15, x16, x17, x18, x19, x20, x21, x22, x23, x24, x25, x26, x27, x28, x29, x30, x31, x32, x33, x34, x35, x36, x37, x38, x39, x40, x41, x42, x43, x44, x45, x46, x47, x48, x49, x50, x51, x52, x53, x54, x55, x56, x57, x58, x59, x60, x61, x62, x63, x64, x65, x66, x67, x68, x69, x70, x71, x72, x73, x74, x75, x76, x77, x78, x79, x80, x81, x82, x83, x84, x85, x86, x87, x88, x89, x90, x91, x92, x93, x94, x95, x96, x97, x98, x99, x100, x101, x102, x103, x104, x105].getD i undef, rfl⟩
end Go.Proofs.Ytejkhpgahnncnaa
end

section
namespace Go.Proofs.Ytejkhpgahnncnaa
set_option linter.unusedVariables false
set_option linter.unusedSimpArgs false
set_option maxRecDepth 100000
set_option maxHeartbeats 4000000

theorem ok_pack_reader_next {n:Nat} ⦃r_s:(List UInt8)⦄ ⦃r_bad:Bool⦄ ⦃r:(Int×(List UInt8)×Bool)⦄:m_pack_reader_next n r_s r_bad=some r→CN n 56 [AV.ptr 0 0] [Ob.var 73 [sA r_s,bA r_bad]]=some (iA r.1,[Ob.var 73 [sA r.2.1,bA r.2.2]]):=by
 intro h;rcases n with _|n;cases h
 rw [m_pack_reader_next] at h
 refine callN_eq' Try.func56 (by rfl) rfl rfl (Nat.le_of_ble_eq_true rfl) ?_
 intro call hc;conv=>lhs;whnf
 revert h
 refine br ?_ ?_
 exact rz
 refine ixs ?_;intro x2
 refine cp ?_
 exact rz

theorem ok_pack_reader_row {n:Nat} ⦃v1_n:Int⦄ ⦃r_s:(List UInt8)⦄ ⦃r_bad:Bool⦄ ⦃r:((List Int)×(List UInt8)×Bool)⦄:m_pack_reader_row n v1_n r_s r_bad=some r→CN n 45 [AV.ptr 0 0,iA v1_n] [Ob.var 73 [sA r_s,bA r_bad]]=some (AV.sl 1 (List.map encI r.1),[Ob.var 73 [sA r.2.1,bA r.2.2]]):=by
 intro h;rcases n with _|n;cases h
 rw [m_pack_reader_row] at h
 refine callN_eq' Try.func45 (by rfl) rfl rfl (Nat.le_of_ble_eq_true rfl) ?_
 intro call hc;conv=>lhs;whnf
 revert h
 intro h
 refine chk_some2 h ?_;clear h;intro hc2 h
 try simp only [ls]
 refine bif_pos (by first|exact make_ok (B:=8) hc2 rfl (by kernel_rfl)|exact make_ok2 (B:=8) hc2 (by kernel_rfl)) ?_
 have hr1:List.replicate v1_n.toNat [iA (0)]=List.map encI (List.replicate v1_n.toNat 0:List Int):=by rw [List.map_replicate];rfl
 simp only [hr1,ls]
 conv=>lhs;whnf
 revert h
 intro h;refine bind_some2 h ?_;clear h;intro o14 ho14 h
 refine lq (σ:=(Int×(List UInt8)×Bool×(List Int))) (τ:=((List UInt8)×Bool×(List Int))) (ν:=((List Int)×(List UInt8)×Bool)) 0 (fun (s3,s4,s5,s6) a8=>stOf 21 [(0,AV.ptr 0 0),(5,AV.own 1 0 (List.length s6)),(10,iA (((((List.replicate v1_n.toNat 0:List Int)).length:Nat):Int))),(11,iA s3)]) (fun (s3,s4,s5,s6) a8=>[Ob.var 73 [sA s4,bA s5],Ob.arr 1 (List.map encI s6)]) (fun (x21,x22,x23) a20=>stOf 21 [(5,AV.own 1 0 (List.length x23))]) (fun (x21,x22,x23) a20=>[Ob.var 73 [sA x21,bA x22],Ob.arr 1 (List.map encI x23)]) (fun v=>(AV.sl 1 (List.map encI v.1),[Ob.var 73 [sA v.2.1,bA v.2.2]])) (fun k s=>pack_reader_row_L0 n v1_n k s.1 s.2.1 s.2.2.1 s.2.2.2) (fun s=>rfl) o14 n (0,r_s,r_bad,(List.replicate v1_n.toNat 0:List Int)) (fun _=>0) ho14 ?_ ?_
 intro k7 ss a8 K9 cont10 hK11 hcont12 h hr13
 obtain ⟨s3,s4,s5,s6⟩:=ss
 replace h:pack_reader_row_L0 n v1_n (k7+1) s3 s4 s5 s6=some o14:=h
 rw [pack_reader_row_L0] at h
 conv=>lhs;whnf
 revert h
 refine br ?_ ?_
 refine ca hc (fun _ h=>ok_pack_reader_next h) ?_;intro y16
 intro h
 refine bind_some2 h ?_;clear h;intro x18 hx18 h
 try simp only [ls]
 refine bif_pos (by first|exact idx_in hx18|exact idx_in' hx18|exact own_in hx18|exact own_in' hx18|(have q:=idx_in hx18;simp only [List.length_set] at q;exact q)|(have q:=own_in' hx18;simp only [List.length_set,Nat.zero_add] at q ⊢;exact q)) ?_
 conv=>lhs;whnf
 try simp only [Nat.zero_add,idx_nth (f:=encI) hx18,dec_self,ls]
 conv=>lhs;whnf
 revert h
 intro h
 have hs19:setNth (List.map encI s6) s3.toNat [iA y16.1]=List.map encI (List.set s6 s3.toNat y16.1):=by rw [setNth_eq,List.map_set];rfl
 have hs19_u:setNth (List.map encI s6) s3.toNat (updL (encI x18) 0 [iA y16.1])=List.map encI (List.set s6 s3.toNat y16.1):=by rw [setNth_eq,List.map_set];rfl
 try simp only [Nat.zero_add,idx_nth (f:=encI) hx18]
 conv=>lhs;whnf
 try simp only [hs19,hs19_u]
 conv=>lhs;whnf
 revert h
 exact fun h=>cq (hcont12 (IntKind.i64.wrap (s3+1),y16.2.1,y16.2.2,(List.set s6 s3.toNat y16.1)) (fun _=>0) h)
 intro h;cases sj h
 exact kq (hr13 (fun _=>0))
 refine lrc ?_ ?_
 intro v e;subst e;cases sj h;rfl
 intro t a20 e;subst e
 obtain ⟨x21,x22,x23⟩:=t
 dsimp only at h
 conv=>lhs;whnf
 revert h
 intro h;cases sj h
 try simp only [ls]
 exact fq (y:=some (AV.sl 1 (List.take (List.length x23) (List.drop 0 (List.map encI x23))),[Ob.var 73 [sA x21,bA x22]]))

theorem ok_pack_reader_thread {n:Nat} ⦃v2_regs:Int⦄ ⦃r_s:(List UInt8)⦄ ⦃r_bad:Bool⦄ ⦃c_Pc:(List Int)⦄ ⦃c_Regs:(List (List Int))⦄ ⦃c_Mem:(List Int)⦄ ⦃c_Buf:(List (List EntryS))⦄ ⦃r:((List UInt8)×Bool×(List Int)×(List (List Int))×(List (List EntryS)))⦄:m_pack_reader_thread n v2_regs r_s r_bad c_Pc c_Regs c_Mem c_Buf=some r→CN n 44 [AV.ptr 0 0,AV.ptr 1 0,iA v2_regs] [Ob.var 73 [sA r_s,bA r_bad],Ob.var 31 [AV.row 2 (List.length c_Pc),AV.row 3 (List.length c_Regs),AV.row 4 (List.length c_Mem),AV.row 5 (List.length c_Buf)],Ob.row 3 1 (List.map encI c_Pc),Ob.row 22 1 (List.map encRow c_Regs),Ob.row 3 1 (List.map encI c_Mem),Ob.row 38 1 (List.map encBuf c_Buf)]=some (AV.tup [],[Ob.var 73 [sA r.1,bA r.2.1],Ob.var 31 [AV.row 2 (List.length r.2.2.1),AV.row 3 (List.length r.2.2.2.1),AV.row 4 (List.length c_Mem),AV.row 5 (List.length r.2.2.2.2)],Ob.row 3 1 (List.map encI r.2.2.1),Ob.row 22 1 (List.map encRow r.2.2.2.1),Ob.row 3 1 (List.map encI c_Mem),Ob.row 38 1 (List.map encBuf r.2.2.2.2)]):=by
 intro h;rcases n with _|n;cases h
 rw [m_pack_reader_thread] at h
 refine callN_eq' Try.func44 (by rfl) rfl rfl (Nat.le_of_ble_eq_true rfl) ?_
 intro call hc;conv=>lhs;whnf
 revert h
 refine ca hc (fun _ h=>ok_pack_reader_next h) ?_;intro y1
 refine ca hc (fun _ h=>ok_pack_reader_next h) ?_;intro y3
 refine ar (ap encI (List.map encI c_Pc) c_Pc ([[iA (IntKind.i64.wrap ((IntKind.i64.wrap (256 * y1.1))+y3.1))]]) ([IntKind.i64.wrap ((IntKind.i64.wrap (256 * y1.1))+y3.1)]:List Int)) ?_
 refine ca hc (fun _ h=>ok_pack_reader_row h) ?_;intro y7
 refine ar (ap encRow (List.map encRow c_Regs) c_Regs ([[AV.sl 1 (List.map encI y7.1)]]) ([y7.1]:List (List Int))) ?_
 refine ca hc (fun _ h=>ok_pack_reader_next h) ?_;intro y11
 intro h;refine bind_some2 h ?_;clear h;intro o24 ho24 h
 refine lq (σ:=(Int×(List UInt8)×Bool×(List EntryS))) (τ:=((List UInt8)×Bool×(List EntryS))) (ν:=((List UInt8)×Bool×(List Int)×(List (List Int))×(List (List EntryS)))) 0 (fun (s13,s14,s15,s16) a18=>stOf 61 [(0,AV.ptr 0 0),(1,AV.ptr 1 0),(7,AV.row 6 (List.length s16)),(38,iA y11.1),(39,iA s13)]) (fun (s13,s14,s15,s16) a18=>[Ob.var 73 [sA s14,bA s15],Ob.var 31 [AV.row 2 (List.length ((c_Pc++([IntKind.i64.wrap ((IntKind.i64.wrap (256 * y1.1))+y3.1)]:List Int)))),AV.row 3 (List.length ((c_Regs++([y7.1]:List (List Int))))),AV.row 4 (List.length c_Mem),AV.row 5 (List.length c_Buf)],Ob.row 3 1 (List.map encI (c_Pc++([IntKind.i64.wrap ((IntKind.i64.wrap (256 * y1.1))+y3.1)]:List Int))),Ob.row 22 1 (List.map encRow (c_Regs++([y7.1]:List (List Int)))),Ob.row 3 1 (List.map encI c_Mem),Ob.row 38 1 (List.map encBuf c_Buf),Ob.row 40 2 (List.map encE s16)]) (fun (x33,x34,x35) a32=>stOf 61 [(1,AV.ptr 1 0),(7,AV.row 6 (List.length x35))]) (fun (x33,x34,x35) a32=>[Ob.var 73 [sA x33,bA x34],Ob.var 31 [AV.row 2 (List.length ((c_Pc++([IntKind.i64.wrap ((IntKind.i64.wrap (256 * y1.1))+y3.1)]:List Int)))),AV.row 3 (List.length ((c_Regs++([y7.1]:List (List Int))))),AV.row 4 (List.length c_Mem),AV.row 5 (List.length c_Buf)],Ob.row 3 1 (List.map encI (c_Pc++([IntKind.i64.wrap ((IntKind.i64.wrap (256 * y1.1))+y3.1)]:List Int))),Ob.row 22 1 (List.map encRow (c_Regs++([y7.1]:List (List Int)))),Ob.row 3 1 (List.map encI c_Mem),Ob.row 38 1 (List.map encBuf c_Buf),Ob.row 40 2 (List.map encE x35)]) (fun v=>(AV.tup [],[Ob.var 73 [sA v.1,bA v.2.1],Ob.var 31 [AV.row 2 (List.length v.2.2.1),AV.row 3 (List.length v.2.2.2.1),AV.row 4 (List.length c_Mem),AV.row 5 (List.length v.2.2.2.2)],Ob.row 3 1 (List.map encI v.2.2.1),Ob.row 22 1 (List.map encRow v.2.2.2.1),Ob.row 3 1 (List.map encI c_Mem),Ob.row 38 1 (List.map encBuf v.2.2.2.2)])) (fun k s=>pack_reader_thread_L0 n y11 k s.1 s.2.1 s.2.2.1 s.2.2.2) (fun s=>rfl) o24 n (0,y11.2.1,y11.2.2,([]:List EntryS)) (fun _=>0) ho24 ?_ ?_
 intro k17 ss a18 K19 cont20 hK21 hcont22 h hr23
 obtain ⟨s13,s14,s15,s16⟩:=ss
 replace h:pack_reader_thread_L0 n y11 (k17+1) s13 s14 s15 s16=some o24:=h
 rw [pack_reader_thread_L0] at h
 conv=>lhs;whnf
 revert h
 refine br ?_ ?_
 refine ca hc (fun _ h=>ok_pack_reader_next h) ?_;intro y26
 refine ca hc (fun _ h=>ok_pack_reader_next h) ?_;intro y28
 refine ar (ap encE (List.map encE s16) s16 ([[iA y26.1,iA y28.1]]) ([(⟨y26.1,y28.1⟩:EntryS)]:List EntryS)) ?_
 exact fun h=>cq (hcont22 (IntKind.i64.wrap (s13+1),y28.2.1,y28.2.2,(s16++([(⟨y26.1,y28.1⟩:EntryS)]:List EntryS))) (fun _=>0) h)
 intro h;cases sj h
 exact kq (hr23 (fun _=>0))
 refine lrc ?_ ?_
 intro v e;subst e;cases sj h;rfl
 intro t a32 e;subst e
 obtain ⟨x33,x34,x35⟩:=t
 dsimp only at h
 conv=>lhs;whnf
 revert h
 refine ar (ap encBuf (List.map encBuf c_Buf) c_Buf ([[AV.sl 2 (List.map encE x35)]]) ([x35]:List (List EntryS))) ?_
 intro h;cases sj h
 try simp only [ls]
 exact fq (y:=some (AV.tup [],[Ob.var 73 [sA x33,bA x34],Ob.var 31 [AV.row 2 (List.length ((c_Pc++([IntKind.i64.wrap ((IntKind.i64.wrap (256 * y1.1))+y3.1)]:List Int)))),AV.row 3 (List.length ((c_Regs++([y7.1]:List (List Int))))),AV.row 4 (List.length c_Mem),AV.row 5 (List.length ((c_Buf++([x35]:List (List EntryS)))))],Ob.row 3 1 (List.map encI (c_Pc++([IntKind.i64.wrap ((IntKind.i64.wrap (256 * y1.1))+y3.1)]:List Int))),Ob.row 22 1 (List.map encRow (c_Regs++([y7.1]:List (List Int)))),Ob.row 3 1 (List.map encI c_Mem),Ob.row 38 1 (List.map encBuf (c_Buf++([x35]:List (List EntryS))))]))

theorem ok_pack_Decode {n:Nat} ⦃v0_u:UnitS⦄ ⦃v1_s:(List UInt8)⦄ ⦃v2_model:Int⦄ ⦃v3_room:Int⦄ ⦃r:(ConfS×Int)⦄:m_pack_Decode n v0_u v1_s v2_model v3_room=some r→CN n 25 [AV.agg [iA (v0_u.mod),AV.sl 1 (List.map encI (v0_u.init)),AV.sl 1 (List.map encI (v0_u.regs)),AV.sl 1 (List.map encThr (v0_u.code))],sA v1_s,iA v2_model,iA v3_room] []=some (AV.tup [AV.agg [AV.sl 1 (List.map encI (r.1.pc)),AV.sl 1 (List.map encRow (r.1.regs)),AV.sl 1 (List.map encI (r.1.mem)),AV.sl 1 (List.map encBuf (r.1.buf))],iA r.2],[]):=by
 intro h;rcases n with _|n;cases h
 rw [m_pack_Decode] at h
 refine callN_eq' Try.func25 (by rfl) rfl rfl (Nat.le_of_ble_eq_true rfl) ?_
 intro call hc;conv=>lhs;whnf
 revert h
 refine ca hc (fun _ h=>ok_conf_Start h) ?_;intro y1
 refine br ?_ ?_
 exact rz
 intro h;refine bind_some2 h ?_;clear h;intro o17 ho17 h
 refine lq (σ:=(Int×(List UInt8)×Bool×(List Int)×(List (List Int))×(List (List EntryS)))) (τ:=((List UInt8)×Bool×(List Int)×(List (List Int))×(List (List EntryS)))) (ν:=(ConfS×Int)) 0 (fun (s4,s5,s6,s7,s8,s9) a11=>stOf 65 [(2,iA v2_model),(3,iA v3_room),(4,AV.ptr 0 0),(8,AV.ptr 1 0),(10,AV.ptr 2 0),(11,AV.ptr 3 0),(28,AV.sl 1 (List.map encI (v0_u.regs))),(29,iA ((((v0_u.regs).length:Nat):Int))),(30,iA s4)]) (fun (s4,s5,s6,s7,s8,s9) a11=>[Ob.var 25 [iA (v0_u.mod),AV.sl 1 (List.map encI (v0_u.init)),AV.sl 1 (List.map encI (v0_u.regs)),AV.sl 1 (List.map encThr (v0_u.code))],Ob.var 31 [AV.row 5 (List.length (([]:List Int))),AV.row 6 (List.length (([]:List (List Int)))),AV.row 7 (List.length (([]:List Int))),AV.row 8 (List.length (([]:List (List EntryS))))],Ob.var 73 [sA s5,bA s6],Ob.var 31 [AV.row 9 (List.length s7),AV.row 10 (List.length s8),AV.row 11 (List.length (([]:List Int))),AV.row 12 (List.length s9)],Ob.var 31 [AV.sl 1 (List.map encI (y1.1.pc)),AV.sl 1 (List.map encRow (y1.1.regs)),AV.sl 1 (List.map encI (y1.1.mem)),AV.sl 1 (List.map encBuf (y1.1.buf))],Ob.row 3 1 ([]),Ob.row 22 1 ([]),Ob.row 3 1 ([]),Ob.row 38 1 ([]),Ob.row 3 1 (List.map encI s7),Ob.row 22 1 (List.map encRow s8),Ob.row 3 1 ([]),Ob.row 38 1 (List.map encBuf s9)]) (fun (x23,x24,x25,x26,x27) a22=>stOf 65 [(2,iA v2_model),(3,iA v3_room),(4,AV.ptr 0 0),(8,AV.ptr 1 0),(10,AV.ptr 2 0),(11,AV.ptr 3 0)]) (fun (x23,x24,x25,x26,x27) a22=>[Ob.var 25 [iA (v0_u.mod),AV.sl 1 (List.map encI (v0_u.init)),AV.sl 1 (List.map encI (v0_u.regs)),AV.sl 1 (List.map encThr (v0_u.code))],Ob.var 31 [AV.row 5 (List.length (([]:List Int))),AV.row 6 (List.length (([]:List (List Int)))),AV.row 7 (List.length (([]:List Int))),AV.row 8 (List.length (([]:List (List EntryS))))],Ob.var 73 [sA x23,bA x24],Ob.var 31 [AV.row 9 (List.length x25),AV.row 10 (List.length x26),AV.row 11 (List.length (([]:List Int))),AV.row 12 (List.length x27)],Ob.var 31 [AV.sl 1 (List.map encI (y1.1.pc)),AV.sl 1 (List.map encRow (y1.1.regs)),AV.sl 1 (List.map encI (y1.1.mem)),AV.sl 1 (List.map encBuf (y1.1.buf))],Ob.row 3 1 ([]),Ob.row 22 1 ([]),Ob.row 3 1 ([]),Ob.row 38 1 ([]),Ob.row 3 1 (List.map encI x25),Ob.row 22 1 (List.map encRow x26),Ob.row 3 1 ([]),Ob.row 38 1 (List.map encBuf x27)]) (fun v=>(AV.tup [AV.agg [AV.sl 1 (List.map encI (v.1.pc)),AV.sl 1 (List.map encRow (v.1.regs)),AV.sl 1 (List.map encI (v.1.mem)),AV.sl 1 (List.map encBuf (v.1.buf))],iA v.2],[])) (fun k s=>pack_Decode_L0 n v0_u k s.1 s.2.1 s.2.2.1 s.2.2.2.1 s.2.2.2.2.1 s.2.2.2.2.2) (fun s=>rfl) o17 n (0,v1_s,false,([]:List Int),([]:List (List Int)),([]:List (List EntryS))) (fun _=>0) ho17 ?_ ?_
 intro k10 ss a11 K12 cont13 hK14 hcont15 h hr16
 obtain ⟨s4,s5,s6,s7,s8,s9⟩:=ss
 replace h:pack_Decode_L0 n v0_u (k10+1) s4 s5 s6 s7 s8 s9=some o17:=h
 rw [pack_Decode_L0] at h
 conv=>lhs;whnf
 revert h
 refine br ?_ ?_
 refine ix ?_;intro x19
 refine cr hc (fun y20 h=>(show CN n 44 [AV.ptr 0 0,AV.ptr 1 0,iA x19] [Ob.var 73 [sA s5,bA s6],Ob.var 31 [AV.row 2 (List.length s7),AV.row 3 (List.length s8),AV.row 4 (List.length (([]:List Int))),AV.row 5 (List.length s9)],Ob.row 3 1 (List.map encI s7),Ob.row 22 1 (List.map encRow s8),Ob.row 3 1 ([]),Ob.row 38 1 (List.map encBuf s9)]=some (AV.tup [],[Ob.var 73 [sA y20.1,bA y20.2.1],Ob.var 31 [AV.row 2 (List.length y20.2.2.1),AV.row 3 (List.length y20.2.2.2.1),AV.row 4 (List.length (([]:List Int))),AV.row 5 (List.length y20.2.2.2.2)],Ob.row 3 1 (List.map encI y20.2.2.1),Ob.row 22 1 (List.map encRow y20.2.2.2.1),Ob.row 3 1 ([]),Ob.row 38 1 (List.map encBuf y20.2.2.2.2)]) from ok_pack_reader_thread (r:=y20) h)) ?_;intro y20
 exact fun h=>cq (hcont15 (IntKind.i64.wrap (s4+1),y20.1,y20.2.1,y20.2.2.1,y20.2.2.2.1,y20.2.2.2.2) (fun _=>0) h)
 intro h;cases sj h
 exact kq (hr16 (fun _=>0))
 refine lrc ?_ ?_
 intro v e;subst e;cases sj h;rfl
 intro t a22 e;subst e
 obtain ⟨x23,x24,x25,x26,x27⟩:=t
 dsimp only at h
 conv=>lhs;whnf
 revert h
 refine cr hc (fun _ h=>ok_pack_reader_row h) ?_;intro y28
 refine br ?_ ?_
 exact rz
 refine br ?_ ?_
 refine cr hc (fun y32 h=>(show CN n 29 [AV.agg [iA (v0_u.mod),AV.sl 1 (List.map encI (v0_u.init)),AV.sl 1 (List.map encI (v0_u.regs)),AV.sl 1 (List.map encThr (v0_u.code))],AV.agg [AV.sl 1 (List.map encI x25),AV.sl 1 (List.map encRow x26),AV.sl 1 (List.map encI y28.1),AV.sl 1 (List.map encBuf x27)],iA v2_model,iA v3_room] []=some (bA y32,[]) from ok_conf_Right (r:=y32) h)) ?_;intro y32
 refine br ?_ ?_
 intro h;cases sj h
 try simp only [ls]
 exact fq (y:=some (AV.tup [AV.agg [AV.sl 1 (List.take (List.length x25) (List.map encI x25)),AV.sl 1 (List.take (List.length x26) (List.map encRow x26)),AV.sl 1 (List.map encI y28.1),AV.sl 1 (List.take (List.length x27) (List.map encBuf x27))],iA (0)],[]))
 exact rz
 exact rz

theorem ok_pack_Size {n:Nat} ⦃v0_c:ConfS⦄ ⦃r:Int⦄:m_pack_Size n v0_c=some r→CN n 23 [AV.agg [AV.sl 1 (List.map encI (v0_c.pc)),AV.sl 1 (List.map encRow (v0_c.regs)),AV.sl 1 (List.map encI (v0_c.mem)),AV.sl 1 (List.map encBuf (v0_c.buf))]] []=some (iA r,[]):=by
 intro h;rcases n with _|n;cases h
 rw [m_pack_Size] at h
 refine callN_eq' Try.func23 (by rfl) rfl rfl (Nat.le_of_ble_eq_true rfl) ?_
 intro call hc;conv=>lhs;whnf
 revert h
 intro h;refine bind_some2 h ?_;clear h;intro o10 ho10 h
 refine lq (σ:=(Int×Int)) (τ:=Int) (ν:=Int) 0 (fun (s1,s2) a4=>stOf 42 [(1,AV.ptr 0 0),(3,iA s1),(17,AV.sl 1 (List.map encRow (v0_c.regs))),(18,iA ((((v0_c.regs).length:Nat):Int))),(19,iA s2)]) (fun (s1,s2) a4=>[Ob.var 31 [AV.sl 1 (List.map encI (v0_c.pc)),AV.sl 1 (List.map encRow (v0_c.regs)),AV.sl 1 (List.map encI (v0_c.mem)),AV.sl 1 (List.map encBuf (v0_c.buf))]]) (fun x14 a13=>stOf 42 [(1,AV.ptr 0 0),(3,iA x14)]) (fun x14 a13=>[Ob.var 31 [AV.sl 1 (List.map encI (v0_c.pc)),AV.sl 1 (List.map encRow (v0_c.regs)),AV.sl 1 (List.map encI (v0_c.mem)),AV.sl 1 (List.map encBuf (v0_c.buf))]]) (fun v=>(iA v,[])) (fun k s=>pack_Size_L0 n v0_c k s.1 s.2) (fun s=>rfl) o10 n (IntKind.i64.wrap ((IntKind.i64.wrap (3 * (((v0_c.pc).length:Nat):Int)))+(((v0_c.mem).length:Nat):Int)),0) (fun _=>0) ho10 ?_ ?_
 intro k3 ss a4 K5 cont6 hK7 hcont8 h hr9
 obtain ⟨s1,s2⟩:=ss
 replace h:pack_Size_L0 n v0_c (k3+1) s1 s2=some o10:=h
 rw [pack_Size_L0] at h
 conv=>lhs;whnf
 revert h
 refine br ?_ ?_
 refine ix ?_;intro x12
 exact fun h=>cq (hcont8 (IntKind.i64.wrap (s1+((x12.length:Nat):Int)),IntKind.i64.wrap (s2+1)) (fun _=>0) h)
 intro h;cases sj h
 exact kq (hr9 (fun _=>0))
 refine lrc ?_ ?_
 intro v e;subst e;cases sj h;rfl
 intro x14 a13 e;subst e
 dsimp only at h
 conv=>lhs;whnf
 revert h
 intro h;refine bind_some2 h ?_;clear h;intro o24 ho24 h
 refine lq (σ:=(Int×Int)) (τ:=Int) (ν:=Int) 2 (fun (s15,s16) a18=>stOf 42 [(3,iA s15),(29,AV.sl 1 (List.map encBuf (v0_c.buf))),(30,iA ((((v0_c.buf).length:Nat):Int))),(31,iA s16)]) (fun (s15,s16) a18=>[Ob.var 31 [AV.sl 1 (List.map encI (v0_c.pc)),AV.sl 1 (List.map encRow (v0_c.regs)),AV.sl 1 (List.map encI (v0_c.mem)),AV.sl 1 (List.map encBuf (v0_c.buf))]]) (fun x28 a27=>stOf 42 [(3,iA x28)]) (fun x28 a27=>[Ob.var 31 [AV.sl 1 (List.map encI (v0_c.pc)),AV.sl 1 (List.map encRow (v0_c.regs)),AV.sl 1 (List.map encI (v0_c.mem)),AV.sl 1 (List.map encBuf (v0_c.buf))]]) (fun v=>(iA v,[])) (fun k s=>pack_Size_L1 n v0_c k s.1 s.2) (fun s=>rfl) o24 n (x14,0) (fun _=>0) ho24 ?_ ?_
 intro k17 ss a18 K19 cont20 hK21 hcont22 h hr23
 obtain ⟨s15,s16⟩:=ss
 replace h:pack_Size_L1 n v0_c (k17+1) s15 s16=some o24:=h
 rw [pack_Size_L1] at h
 conv=>lhs;whnf
 revert h
 refine br ?_ ?_
 refine ix ?_;intro x26
 exact fun h=>cq (hcont22 (IntKind.i64.wrap (s15+(IntKind.i64.wrap (2 * ((x26.length:Nat):Int)))),IntKind.i64.wrap (s16+1)) (fun _=>0) h)
 intro h;cases sj h
 exact kq (hr23 (fun _=>0))
 refine lrc ?_ ?_
 intro v e;subst e;cases sj h;rfl
 intro x28 a27 e;subst e
 dsimp only at h
 conv=>lhs;whnf
 revert h
 exact rz

theorem ok_pack_writer_put {n:Nat} ⦃v1_l:(List Int)⦄ ⦃w_at:Int⦄ ⦃o1_a:(List Int)⦄ ⦃r:(Int×(List Int))⦄:m_pack_writer_put n v1_l w_at o1_a=some r→CN n 43 [AV.ptr 0 0,AV.sl 1 (List.map (encK .u8) v1_l)] [Ob.var 69 [AV.own 1 0 (List.length o1_a),iA w_at],Ob.arr 1 (List.map (encK .u8) o1_a)]=some (AV.tup [],[Ob.var 69 [AV.own 1 0 (List.length r.2),iA r.1],Ob.arr 1 (List.map (encK .u8) r.2)]):=by
 intro h;rcases n with _|n;cases h
 rw [m_pack_writer_put] at h
 refine callN_eq' Try.func43 (by rfl) rfl rfl (Nat.le_of_ble_eq_true rfl) ?_
 intro call hc;conv=>lhs;whnf
 revert h
 intro h
 refine chk_some2 h ?_;clear h;intro hc1 h
 try simp only [ls]
 refine bif_pos hc1 ?_
 simp only [Nat.zero_add,Nat.sub_zero,ls]
 conv=>lhs;whnf
 revert h
 intro h
 refine chk_some2 h ?_;clear h;intro hc5 h
 have hln4:List.length (List.map (encK .u8) v1_l:List (List AV))=List.length v1_l:=by simp only [List.length_map]<;>rfl
 have hcp3:(List.take (w_at.toNat) (List.map (encK .u8) o1_a)++(List.take (o1_a.length - w_at.toNat) (List.map (encK .u8) v1_l:List (List AV))++List.drop (w_at.toNat+Nat.min (List.length (List.map (encK .u8) v1_l:List (List AV))) (o1_a.length - w_at.toNat)) (List.map (encK .u8) o1_a)))=List.map (encK .u8) (copyL o1_a (w_at.toNat) (o1_a.length - w_at.toNat) v1_l):=by rw [copyL_eq hc5,hln4];first|(simp only [List.map_append,List.map_take,List.map_drop];done)|(simp only [List.map_append,List.map_take,List.map_drop,List.map_cons,List.map_nil]<;>rfl)
 have hcp3_b:(List.take (w_at.toNat) (List.map (encK .u8) o1_a)++(List.take (o1_a.length - w_at.toNat) (List.map (encK .u8) v1_l:List (List AV))++List.drop (w_at.toNat+Nat.min (List.length v1_l) (o1_a.length - w_at.toNat)) (List.map (encK .u8) o1_a)))=List.map (encK .u8) (copyL o1_a (w_at.toNat) (o1_a.length - w_at.toNat) v1_l):=by rw [copyL_eq hc5];first|(simp only [List.map_append,List.map_take,List.map_drop];done)|(simp only [List.map_append,List.map_take,List.map_drop,List.map_cons,List.map_nil]<;>rfl)
 try simp only [List.length_map]
 refine bif_pos (by first|exact hc5|(simp only [List.length_map];exact hc5)) ?_
 first|simp only [hcp3,hln4]|simp only [hcp3_b,hln4]|simp only [hcp3_b]
 try simp only [ls]
 conv=>lhs;whnf
 revert h
 intro h;cases sj h
 try simp only [ls]
 exact fq (y:=some (AV.tup [],[Ob.var 69 [AV.own 1 0 (List.length ((copyL o1_a (w_at.toNat) (o1_a.length - w_at.toNat) v1_l))),iA (IntKind.i64.wrap (w_at+(((Nat.min (List.length v1_l) (o1_a.length - w_at.toNat)):Nat):Int)))],Ob.arr 1 (List.map (encK .u8) (copyL o1_a (w_at.toNat) (o1_a.length - w_at.toNat) v1_l))]))

theorem ok_pack_Encode {n:Nat} ⦃v0_u:UnitS⦄ ⦃v1_c:ConfS⦄ ⦃v2_model:Int⦄ ⦃v3_room:Int⦄ ⦃r:((List UInt8)×Int)⦄:m_pack_Encode n v0_u v1_c v2_model v3_room=some r→CN n 21 [AV.agg [iA (v0_u.mod),AV.sl 1 (List.map encI (v0_u.init)),AV.sl 1 (List.map encI (v0_u.regs)),AV.sl 1 (List.map encThr (v0_u.code))],AV.agg [AV.sl 1 (List.map encI (v1_c.pc)),AV.sl 1 (List.map encRow (v1_c.regs)),AV.sl 1 (List.map encI (v1_c.mem)),AV.sl 1 (List.map encBuf (v1_c.buf))],iA v2_model,iA v3_room] []=some (AV.tup [sA r.1,iA r.2],[]):=by
 intro h;rcases n with _|n;cases h
 rw [m_pack_Encode] at h
 refine callN_eq' Try.func21 (by rfl) rfl rfl (Nat.le_of_ble_eq_true rfl) ?_
 intro call hc;conv=>lhs;whnf
 revert h
 refine ca hc (fun _ h=>ok_conf_Right h) ?_;intro y1
 refine br ?_ ?_
 refine ca hc (fun _ h=>ok_pack_Size h) ?_;intro y4
 intro h
 refine chk_some2 h ?_;clear h;intro hc7 h
 try simp only [ls]
 refine bif_pos (by first|exact make_ok (B:=1) hc7 rfl (by kernel_rfl)|exact make_ok2 (B:=1) hc7 (by kernel_rfl)) ?_
 have hr6:List.replicate y4.toNat [AV.int .u8 (0)]=List.map (encK .u8) (List.replicate y4.toNat 0:List Int):=by rw [List.map_replicate];rfl
 simp only [hr6,ls]
 conv=>lhs;whnf
 revert h
 intro h;refine bind_some2 h ?_;clear h;intro o18 ho18 h
 refine lq (σ:=(Int×(List Int)×Int)) (τ:=(Int×(List Int))) (ν:=((List UInt8)×Int)) 0 (fun (s8,s9,s10) a12=>stOf 112 [(5,AV.ptr 1 0),(10,AV.ptr 3 0),(31,AV.sl 1 (List.map encI (v1_c.pc))),(32,iA ((((v1_c.pc).length:Nat):Int))),(33,iA s8)]) (fun (s8,s9,s10) a12=>[Ob.var 25 [iA (v0_u.mod),AV.sl 1 (List.map encI (v0_u.init)),AV.sl 1 (List.map encI (v0_u.regs)),AV.sl 1 (List.map encThr (v0_u.code))],Ob.var 31 [AV.sl 1 (List.map encI (v1_c.pc)),AV.sl 1 (List.map encRow (v1_c.regs)),AV.sl 1 (List.map encI (v1_c.mem)),AV.sl 1 (List.map encBuf (v1_c.buf))],Ob.arr 1 (List.map (encK .u8) s9),Ob.var 69 [AV.own 2 0 (List.length s9),iA s10]]) (fun (x67,x68) a66=>stOf 112 [(5,AV.ptr 1 0),(10,AV.ptr 3 0)]) (fun (x67,x68) a66=>[Ob.var 25 [iA (v0_u.mod),AV.sl 1 (List.map encI (v0_u.init)),AV.sl 1 (List.map encI (v0_u.regs)),AV.sl 1 (List.map encThr (v0_u.code))],Ob.var 31 [AV.sl 1 (List.map encI (v1_c.pc)),AV.sl 1 (List.map encRow (v1_c.regs)),AV.sl 1 (List.map encI (v1_c.mem)),AV.sl 1 (List.map encBuf (v1_c.buf))],Ob.arr 1 (List.map (encK .u8) x68),Ob.var 69 [AV.own 2 0 (List.length x68),iA x67]]) (fun v=>(AV.tup [sA v.1,iA v.2],[])) (fun k s=>pack_Encode_L0 n v1_c k s.1 s.2.1 s.2.2) (fun s=>rfl) o18 n (0,(List.replicate y4.toNat 0:List Int),0) (fun _=>0) ho18 ?_ ?_
 intro k11 ss a12 K13 cont14 hK15 hcont16 h hr17
 obtain ⟨s8,s9,s10⟩:=ss
 replace h:pack_Encode_L0 n v1_c (k11+1) s8 s9 s10=some o18:=h
 rw [pack_Encode_L0] at h
 conv=>lhs;whnf
 revert h
 refine br ?_ ?_
 refine ix ?_;intro x20
 refine cr hc (fun y21 h=>(show CN n 43 [AV.ptr 0 0,AV.sl 1 [[AV.int .u8 (IntKind.u8.wrap (IntKind.i64.wrap (Int.tdiv x20 256)))],[AV.int .u8 (IntKind.u8.wrap ((Int.tmod x20 256)))]]] [Ob.var 69 [AV.own 1 0 (List.length s9),iA s10],Ob.arr 1 (List.map (encK .u8) s9)]=some (AV.tup [],[Ob.var 69 [AV.own 1 0 (List.length y21.2),iA y21.1],Ob.arr 1 (List.map (encK .u8) y21.2)]) from ok_pack_writer_put (r:=y21) h)) ?_;intro y21
 refine ix ?_;intro x23
 intro h;refine bind_some2 h ?_;clear h;intro o34 ho34 h
 refine lq (σ:=(Int×(List Int)×Int)) (τ:=(Int×(List Int))) (ν:=((List UInt8)×Int)) 2 (fun (s24,s25,s26) a28=>stOf 112 [(5,AV.ptr 1 0),(10,AV.ptr 3 0),(11,iA s8),(31,AV.sl 1 (List.map encI (v1_c.pc))),(32,iA ((((v1_c.pc).length:Nat):Int))),(33,iA s8),(51,AV.sl 1 (List.map encI x23)),(52,iA (((x23.length:Nat):Int))),(53,iA s24)]) (fun (s24,s25,s26) a28=>[Ob.var 25 [iA (v0_u.mod),AV.sl 1 (List.map encI (v0_u.init)),AV.sl 1 (List.map encI (v0_u.regs)),AV.sl 1 (List.map encThr (v0_u.code))],Ob.var 31 [AV.sl 1 (List.map encI (v1_c.pc)),AV.sl 1 (List.map encRow (v1_c.regs)),AV.sl 1 (List.map encI (v1_c.mem)),AV.sl 1 (List.map encBuf (v1_c.buf))],Ob.arr 1 (List.map (encK .u8) s25),Ob.var 69 [AV.own 2 0 (List.length s25),iA s26]]) (fun (x40,x41) a39=>stOf 112 [(5,AV.ptr 1 0),(10,AV.ptr 3 0),(11,iA s8),(31,AV.sl 1 (List.map encI (v1_c.pc))),(32,iA ((((v1_c.pc).length:Nat):Int))),(33,iA s8)]) (fun (x40,x41) a39=>[Ob.var 25 [iA (v0_u.mod),AV.sl 1 (List.map encI (v0_u.init)),AV.sl 1 (List.map encI (v0_u.regs)),AV.sl 1 (List.map encThr (v0_u.code))],Ob.var 31 [AV.sl 1 (List.map encI (v1_c.pc)),AV.sl 1 (List.map encRow (v1_c.regs)),AV.sl 1 (List.map encI (v1_c.mem)),AV.sl 1 (List.map encBuf (v1_c.buf))],Ob.arr 1 (List.map (encK .u8) x41),Ob.var 69 [AV.own 2 0 (List.length x41),iA x40]]) (fun v=>(AV.tup [sA v.1,iA v.2],[])) (fun k s=>pack_Encode_L1 n x23 k s.1 s.2.1 s.2.2) (fun s=>rfl) o34 n (0,y21.2,y21.1) (fun _=>0) ho34 ?_ ?_
 intro k27 ss a28 K29 cont30 hK31 hcont32 h hr33
 obtain ⟨s24,s25,s26⟩:=ss
 replace h:pack_Encode_L1 n x23 (k27+1) s24 s25 s26=some o34:=h
 rw [pack_Encode_L1] at h
 conv=>lhs;whnf
 revert h
 refine br ?_ ?_
 refine ix ?_;intro x36
 refine cr hc (fun y37 h=>(show CN n 43 [AV.ptr 0 0,AV.sl 1 [[AV.int .u8 (IntKind.u8.wrap x36)]]] [Ob.var 69 [AV.own 1 0 (List.length s25),iA s26],Ob.arr 1 (List.map (encK .u8) s25)]=some (AV.tup [],[Ob.var 69 [AV.own 1 0 (List.length y37.2),iA y37.1],Ob.arr 1 (List.map (encK .u8) y37.2)]) from ok_pack_writer_put (r:=y37) h)) ?_;intro y37
 exact fun h=>cq (hcont32 (IntKind.i64.wrap (s24+1),y37.2,y37.1) (fun _=>0) h)
 intro h;cases sj h
 exact kq (hr33 (fun _=>0))
 refine lrc ?_ ?_
 intro v e;subst e;cases sj h;exact hr17
 intro t a39 e;subst e
 obtain ⟨x40,x41⟩:=t
 dsimp only at h
 conv=>lhs;whnf
 revert h
 refine ix ?_;intro x42
 refine cr hc (fun y43 h=>(show CN n 43 [AV.ptr 0 0,AV.sl 1 [[AV.int .u8 (IntKind.u8.wrap (((x42.length:Nat):Int)))]]] [Ob.var 69 [AV.own 1 0 (List.length x41),iA x40],Ob.arr 1 (List.map (encK .u8) x41)]=some (AV.tup [],[Ob.var 69 [AV.own 1 0 (List.length y43.2),iA y43.1],Ob.arr 1 (List.map (encK .u8) y43.2)]) from ok_pack_writer_put (r:=y43) h)) ?_;intro y43
 refine ix ?_;intro x45
 intro h;refine bind_some2 h ?_;clear h;intro o56 ho56 h
 refine lq (σ:=(Int×(List Int)×Int)) (τ:=(Int×(List Int))) (ν:=((List UInt8)×Int)) 4 (fun (s46,s47,s48) a50=>stOf 112 [(5,AV.ptr 1 0),(10,AV.ptr 3 0),(31,AV.sl 1 (List.map encI (v1_c.pc))),(32,iA ((((v1_c.pc).length:Nat):Int))),(33,iA s8),(77,AV.sl 2 (List.map encE x45)),(78,iA (((x45.length:Nat):Int))),(79,iA s46)]) (fun (s46,s47,s48) a50=>[Ob.var 25 [iA (v0_u.mod),AV.sl 1 (List.map encI (v0_u.init)),AV.sl 1 (List.map encI (v0_u.regs)),AV.sl 1 (List.map encThr (v0_u.code))],Ob.var 31 [AV.sl 1 (List.map encI (v1_c.pc)),AV.sl 1 (List.map encRow (v1_c.regs)),AV.sl 1 (List.map encI (v1_c.mem)),AV.sl 1 (List.map encBuf (v1_c.buf))],Ob.arr 1 (List.map (encK .u8) s47),Ob.var 69 [AV.own 2 0 (List.length s47),iA s48]]) (fun (x62,x63) a61=>stOf 112 [(5,AV.ptr 1 0),(10,AV.ptr 3 0),(31,AV.sl 1 (List.map encI (v1_c.pc))),(32,iA ((((v1_c.pc).length:Nat):Int))),(33,iA s8)]) (fun (x62,x63) a61=>[Ob.var 25 [iA (v0_u.mod),AV.sl 1 (List.map encI (v0_u.init)),AV.sl 1 (List.map encI (v0_u.regs)),AV.sl 1 (List.map encThr (v0_u.code))],Ob.var 31 [AV.sl 1 (List.map encI (v1_c.pc)),AV.sl 1 (List.map encRow (v1_c.regs)),AV.sl 1 (List.map encI (v1_c.mem)),AV.sl 1 (List.map encBuf (v1_c.buf))],Ob.arr 1 (List.map (encK .u8) x63),Ob.var 69 [AV.own 2 0 (List.length x63),iA x62]]) (fun v=>(AV.tup [sA v.1,iA v.2],[])) (fun k s=>pack_Encode_L2 n x45 k s.1 s.2.1 s.2.2) (fun s=>rfl) o56 n (0,y43.2,y43.1) (fun _=>0) ho56 ?_ ?_
 intro k49 ss a50 K51 cont52 hK53 hcont54 h hr55
 obtain ⟨s46,s47,s48⟩:=ss
 replace h:pack_Encode_L2 n x45 (k49+1) s46 s47 s48=some o56:=h
 rw [pack_Encode_L2] at h
 conv=>lhs;whnf
 revert h
 refine br ?_ ?_
 refine ix ?_;intro x58
 refine cr hc (fun y59 h=>(show CN n 43 [AV.ptr 0 0,AV.sl 1 [[AV.int .u8 (IntKind.u8.wrap (x58.loc))],[AV.int .u8 (IntKind.u8.wrap (x58.n))]]] [Ob.var 69 [AV.own 1 0 (List.length s47),iA s48],Ob.arr 1 (List.map (encK .u8) s47)]=some (AV.tup [],[Ob.var 69 [AV.own 1 0 (List.length y59.2),iA y59.1],Ob.arr 1 (List.map (encK .u8) y59.2)]) from ok_pack_writer_put (r:=y59) h)) ?_;intro y59
 exact fun h=>cq (hcont54 (IntKind.i64.wrap (s46+1),y59.2,y59.1) (fun _=>0) h)
 intro h;cases sj h
 exact kq (hr55 (fun _=>0))
 refine lrc ?_ ?_
 intro v e;subst e;cases sj h;exact hr17
 intro t a61 e;subst e
 obtain ⟨x62,x63⟩:=t
 dsimp only at h
 conv=>lhs;whnf
 revert h
 exact fun h=>cq (hcont16 (IntKind.i64.wrap (s8+1),x63,x62) (fun _=>0) h)
 intro h;cases sj h
 exact kq (hr17 (fun _=>0))
 refine lrc ?_ ?_
 intro v e;subst e;cases sj h;rfl
 intro t a66 e;subst e
 obtain ⟨x67,x68⟩:=t
 dsimp only at h
 conv=>lhs;whnf
 revert h
 intro h;refine bind_some2 h ?_;clear h;intro o79 ho79 h
 refine lq (σ:=(Int×(List Int)×Int)) (τ:=(Int×(List Int))) (ν:=((List UInt8)×Int)) 6 (fun (s69,s70,s71) a73=>stOf 112 [(10,AV.ptr 3 0),(95,AV.sl 1 (List.map encI (v1_c.mem))),(96,iA ((((v1_c.mem).length:Nat):Int))),(97,iA s69)]) (fun (s69,s70,s71) a73=>[Ob.var 25 [iA (v0_u.mod),AV.sl 1 (List.map encI (v0_u.init)),AV.sl 1 (List.map encI (v0_u.regs)),AV.sl 1 (List.map encThr (v0_u.code))],Ob.var 31 [AV.sl 1 (List.map encI (v1_c.pc)),AV.sl 1 (List.map encRow (v1_c.regs)),AV.sl 1 (List.map encI (v1_c.mem)),AV.sl 1 (List.map encBuf (v1_c.buf))],Ob.arr 1 (List.map (encK .u8) s70),Ob.var 69 [AV.own 2 0 (List.length s70),iA s71]]) (fun (x85,x86) a84=>stOf 112 [(10,AV.ptr 3 0)]) (fun (x85,x86) a84=>[Ob.var 25 [iA (v0_u.mod),AV.sl 1 (List.map encI (v0_u.init)),AV.sl 1 (List.map encI (v0_u.regs)),AV.sl 1 (List.map encThr (v0_u.code))],Ob.var 31 [AV.sl 1 (List.map encI (v1_c.pc)),AV.sl 1 (List.map encRow (v1_c.regs)),AV.sl 1 (List.map encI (v1_c.mem)),AV.sl 1 (List.map encBuf (v1_c.buf))],Ob.arr 1 (List.map (encK .u8) x86),Ob.var 69 [AV.own 2 0 (List.length x86),iA x85]]) (fun v=>(AV.tup [sA v.1,iA v.2],[])) (fun k s=>pack_Encode_L3 n v1_c k s.1 s.2.1 s.2.2) (fun s=>rfl) o79 n (0,x68,x67) (fun _=>0) ho79 ?_ ?_
 intro k72 ss a73 K74 cont75 hK76 hcont77 h hr78
 obtain ⟨s69,s70,s71⟩:=ss
 replace h:pack_Encode_L3 n v1_c (k72+1) s69 s70 s71=some o79:=h
 rw [pack_Encode_L3] at h
 conv=>lhs;whnf
 revert h
 refine br ?_ ?_
 refine ix ?_;intro x81
 refine cr hc (fun y82 h=>(show CN n 43 [AV.ptr 0 0,AV.sl 1 [[AV.int .u8 (IntKind.u8.wrap x81)]]] [Ob.var 69 [AV.own 1 0 (List.length s70),iA s71],Ob.arr 1 (List.map (encK .u8) s70)]=some (AV.tup [],[Ob.var 69 [AV.own 1 0 (List.length y82.2),iA y82.1],Ob.arr 1 (List.map (encK .u8) y82.2)]) from ok_pack_writer_put (r:=y82) h)) ?_;intro y82
 exact fun h=>cq (hcont77 (IntKind.i64.wrap (s69+1),y82.2,y82.1) (fun _=>0) h)
 intro h;cases sj h
 exact kq (hr78 (fun _=>0))
 refine lrc ?_ ?_
 intro v e;subst e;cases sj h;rfl
 intro t a84 e;subst e
 obtain ⟨x85,x86⟩:=t
 dsimp only at h
 conv=>lhs;whnf
 revert h
 intro h
 refine chk_some2 h ?_;clear h;intro hc88 h
 have hb87:=str_ok (l:=x86) hc88
 try simp only [List.drop_zero,take_map_len]
 refine bif_pos hb87 ?_
 simp only [str_bytes,ls]
 conv=>lhs;whnf
 revert h
 exact rz
 exact rz
end Go.Proofs.Ytejkhpgahnncnaa
end

section
namespace Go.Proofs.Ytejkhpgahnncnaa
set_option linter.unusedVariables false
set_option linter.unusedSimpArgs false
set_option maxRecDepth 100000
set_option maxHeartbeats 4000000

theorem ok_law12_light {n:Nat} ⦃v0_c:S_law12_Case⦄ ⦃r:Bool⦄:m_law12_light n v0_c=some r→CN n 19 [AV.agg [iA (v0_c.f_U.mod),AV.sl 1 (List.map encI (v0_c.f_U.init)),AV.sl 1 (List.map encI (v0_c.f_U.regs)),AV.sl 1 (List.map encThr (v0_c.f_U.code)),AV.sl 1 (List.map encI (v0_c.f_C.pc)),AV.sl 1 (List.map encRow (v0_c.f_C.regs)),AV.sl 1 (List.map encI (v0_c.f_C.mem)),AV.sl 1 (List.map encBuf (v0_c.f_C.buf)),iA v0_c.f_Model,iA v0_c.f_Room]] []=some (bA r,[]):=by
 intro h;rcases n with _|n;cases h
 rw [m_law12_light] at h
 refine callN_eq' Try.func19 (by rfl) rfl rfl (Nat.le_of_ble_eq_true rfl) ?_
 intro call hc;conv=>lhs;whnf
 revert h
 refine ca hc (fun _ h=>ok_ref07_Light h) ?_;intro y1
 refine br ?_ ?_
 refine ca hc (fun _ h=>ok_ref09_Light h) ?_;intro y4
 exact rz
 exact rz
end Go.Proofs.Ytejkhpgahnncnaa
end

section
namespace Go.Proofs.Ytejkhpgahnncnaa
open Go.RowKit
set_option linter.unusedVariables false
set_option linter.unusedSimpArgs false
theorem case_cells {S : Nat → Nat → Prop} {w : World} {hp : Hp} {φ : List Pl} {q : S_law12_Case} {vs : List Value} (hv0 : Reps S w hp φ (c_law12_Case q) vs) : ∃ k1 c1 k2 c2 k3 c3 k4 c4 k5 c5 k6 c6 k7 c7, vs = [.int .i64 q.f_U.mod, .slice k1 q.f_U.init.length c1, .slice k2 q.f_U.regs.length c2, .slice k3 q.f_U.code.length c3, .slice k4 q.f_C.pc.length c4, .slice k5 q.f_C.regs.length c5, .slice k6 q.f_C.mem.length c6, .slice k7 q.f_C.buf.length c7, .int .i64 q.f_Model, .int .i64 q.f_Room] ∧
    Rep S w [] [] (aU q.f_U) (.agg #[.int .i64 q.f_U.mod, .slice k1 q.f_U.init.length c1, .slice k2 q.f_U.regs.length c2, .slice k3 q.f_U.code.length c3]) ∧ Rep S w [] [] (aC q.f_C) (.agg #[.slice k4 q.f_C.pc.length c4, .slice k5 q.f_C.regs.length c5, .slice k6 q.f_C.mem.length c6, .slice k7 q.f_C.buf.length c7]) ∧ Reps S w [] [] (c_law12_Case q) vs ∧ Ones vs := by
  cases hv0 with | cons _ _ _ v0 _ _ h0 hv0 =>
  cases hv0 with | cons _ _ _ v1 _ _ h1 hv0 =>
  cases hv0 with | cons _ _ _ v2 _ _ h2 hv0 =>
  cases hv0 with | cons _ _ _ v3 _ _ h3 hv0 =>
  cases hv0 with | cons _ _ _ v4 _ _ h4 hv0 =>
  cases hv0 with | cons _ _ _ v5 _ _ h5 hv0 =>
  cases hv0 with | cons _ _ _ v6 _ _ h6 hv0 =>
  cases hv0 with | cons _ _ _ v7 _ _ h7 hv0 =>
  cases hv0 with | cons _ _ _ v8 _ _ h8 hv0 =>
  cases hv0 with | cons _ _ _ v9 _ _ h9 hv0 =>
  cases hv0
  obtain ⟨h0, rfl⟩ := shut_int h0
  obtain ⟨h1, k1, c1, rfl⟩ := shut_sl h1
  obtain ⟨h2, k2, c2, rfl⟩ := shut_sl h2
  obtain ⟨h3, k3, c3, rfl⟩ := shut_sl h3
  obtain ⟨h4, k4, c4, rfl⟩ := shut_sl h4
  obtain ⟨h5, k5, c5, rfl⟩ := shut_sl h5
  obtain ⟨h6, k6, c6, rfl⟩ := shut_sl h6
  obtain ⟨h7, k7, c7, rfl⟩ := shut_sl h7
  obtain ⟨h8, rfl⟩ := shut_int h8
  obtain ⟨h9, rfl⟩ := shut_int h9
  simp only [List.length_map] at h1 h2 h3 h4 h5 h6 h7 ⊢
  refine ⟨_, _, _, _, _, _, _, _, _, _, _, _, _, _, rfl, .agg _ _ _ [_, _, _, _] (.cons _ _ _ _ _ _ h0 (.cons _ _ _ _ _ _ h1 (.cons _ _ _ _ _ _ h2 (.cons _ _ _ _ _ _ h3 (.nil _ _))))) ?_, .agg _ _ _ [_, _, _, _] (.cons _ _ _ _ _ _ h4 (.cons _ _ _ _ _ _ h5 (.cons _ _ _ _ _ _ h6 (.cons _ _ _ _ _ _ h7 (.nil _ _))))) ?_, .cons _ _ _ _ _ _ h0 (.cons _ _ _ _ _ _ h1 (.cons _ _ _ _ _ _ h2 (.cons _ _ _ _ _ _ h3 (.cons _ _ _ _ _ _ h4 (.cons _ _ _ _ _ _ h5 (.cons _ _ _ _ _ _ h6 (.cons _ _ _ _ _ _ h7 (.cons _ _ _ _ _ _ h8 (.cons _ _ _ _ _ _ h9 (.nil _ _)))))))))), ?_⟩
  · intro x hx; simp at hx; rcases hx with rfl | rfl | rfl | rfl <;> rfl
  · intro x hx; simp at hx; rcases hx with rfl | rfl | rfl | rfl <;> rfl
  · intro x hx; simp at hx; rcases hx with rfl | rfl | rfl | rfl | rfl | rfl | rfl | rfl | rfl | rfl <;> rfl
set_option maxRecDepth 100000 in
set_option maxHeartbeats 4000000 in
theorem packSizes_walk (W : World) (v : Value) (q : S_law12_Case) (h : Rep (SAll W) W [] [] (.agg (c_law12_Case q)) v) : Calls Try.prog 9 #[v] W (LawOk W) := by
  obtain ⟨b, hb, hl⟩ := law_light 1000 q (by decide)
  have early : callN Try.prog HH XT 1001 9 [.agg (c_law12_Case q)] [] = some (.bool true, []) → Calls Try.prog 9 #[v] W (LawOk W) := fun h1 => law_calls XT_sound h1 (.cons _ _ _ _ _ _ h (.nil _ _))
  obtain ⟨call, hcall⟩ : ∃ c, c = cN XT 1000 := ⟨_, rfl⟩
  have hcS : SoundCall Try.prog HH call := hcall ▸ cN_sound XT_sound 1000
  have hc : ∀ g l h, call false g l h = callN Try.prog HH XT 1000 g l h := fun g l h => by rw [hcall]
  clear hcall
  have F1 := (hc _ _ _).trans (ok_law12_light hb)
  cases b with
  | false =>
    refine early (callN_eq' Try.func9 (by rfl) rfl rfl (Nat.le_of_ble_eq_true rfl) ?_)
    intro call hc
    have F1 := (hc _ _ _).trans (ok_law12_light hb)
    have G3 := (hc _ _ _).trans (ok_law12_known (n := 1000) (r := true) rfl)
    (conv => lhs; whnf)
    simp only [F1]
    (conv => lhs; whnf)
    simp only [G3]
    (conv => lhs; whnf)
    rfl
  | true =>
  obtain ⟨hlu, hlc⟩ := hl rfl
  have hbf := light_bufs 999 q.f_C (by omega) (law_light2 1000 q (by omega) hb)
  have F2 := (hc _ _ _).trans (ok_ref09_Right (rright9_m 1000 q.f_U q.f_C q.f_Model q.f_Room hlc (by omega)))
  cases hr : rightU q.f_U && confOk q.f_U q.f_C q.f_Model q.f_Room with
  | false =>
    refine early (callN_eq' Try.func9 (by rfl) rfl rfl (Nat.le_of_ble_eq_true rfl) ?_)
    intro call hc
    have F1 := (hc _ _ _).trans (ok_law12_light hb)
    have G3 := (hc _ _ _).trans (ok_law12_known (n := 1000) (r := true) rfl)
    have F2 := (hc _ _ _).trans (ok_ref09_Right (rright9_m 1000 q.f_U q.f_C q.f_Model q.f_Room hlc (by omega)))
    rw [hr] at F2
    (conv => lhs; whnf)
    simp only [F1]
    (conv => lhs; whnf)
    simp only [F2]
    (conv => lhs; whnf)
    simp only [G3]
    (conv => lhs; whnf)
    rfl
  | true =>
  rw [hr] at F2
  cases hp0 : (((q.f_C.pc.length : Nat) : Int) == 0) with
  | true =>
    refine early (callN_eq' Try.func9 (by rfl) rfl rfl (Nat.le_of_ble_eq_true rfl) ?_)
    intro call hc
    have F1 := (hc _ _ _).trans (ok_law12_light hb)
    have G3 := (hc _ _ _).trans (ok_law12_known (n := 1000) (r := true) rfl)
    have F2 := (hc _ _ _).trans (ok_ref09_Right (rright9_m 1000 q.f_U q.f_C q.f_Model q.f_Room hlc (by omega)))
    rw [hr] at F2
    (conv => lhs; whnf)
    simp only [F1]
    (conv => lhs; whnf)
    simp only [F2]
    (conv => lhs; whnf)
    simp only [ls, hp0]
    (conv => lhs; whnf)
    simp only [G3]
    (conv => lhs; whnf)
    rfl
  | false =>
  have F3 := (hc _ _ _).trans (ok_pack_Encode (pencode_m 1000 q.f_U q.f_C q.f_Model q.f_Room hlc (by omega)))
  rw [hr, if_pos rfl] at F3
  rw [Bool.and_eq_true] at hr
  obtain ⟨hev, _, _⟩ := even_of hr.2
  have hne : encB q.f_C ≠ [] := by
    intro e
    have := encB_len hev
    rw [e] at this
    simp only [sizeC, List.length_nil] at this
    rw [beq_eq_false_iff_ne] at hp0
    omega
  have hl0 : ((((encB q.f_C).length : Nat) : Int) == 0) = false := by
    rw [beq_eq_false_iff_ne]
    have := List.length_pos_iff.2 hne
    omega
  have hle : (encB q.f_C).length ≤ 6000 := by
    obtain ⟨s1, s2⟩ := hlc.sums
    have := hlc.pc; have := hlc.mem
    rw [encB_len hev, sizeC]; omega
  have g1 : decide ((encB q.f_C).length + ({ data := #[0] } : ByteArray).data.toList.length ≤ 140737488355328) = true := decide_eq_true (by show _ + 1 ≤ _; omega)
  have hpos : 0 < (encB q.f_C).length := List.length_pos_iff.2 hne
  have hw : IntKind.i64.wrap (((encB q.f_C).length : Nat) - 1 : Int) = (((encB q.f_C).length - 1 : Nat) : Int) := by rw [Int.natCast_sub (by omega)]; exact wrap64 (by omega)
  have g2 : (decide (0 ≤ IntKind.i64.wrap (((encB q.f_C).length : Nat) - 1 : Int)) && decide (IntKind.i64.wrap (((encB q.f_C).length : Nat) - 1 : Int) ≤ (((encB q.f_C).length : Nat) : Int))) = true := by rw [hw, decide_eq_true (by omega), decide_eq_true (by omega)]; rfl
  have g3 : List.drop 0 (List.take (IntKind.i64.wrap (((encB q.f_C).length : Nat) - 1 : Int)).toNat (encB q.f_C)) = (encB q.f_C).dropLast := by rw [hw, List.drop_zero, List.dropLast_eq_take]; rfl
  have F4 := (hc _ _ _).trans (ok_pack_Decode (dec_more q.f_U q.f_C q.f_Model q.f_Room hr.1 hr.2 hlc hbf 1000 (by omega)))
  have F5 := (hc _ _ _).trans (ok_pack_Decode (dec_less q.f_U q.f_C q.f_Model q.f_Room hr.1 hr.2 hlc hbf hne 1000 (by omega)))
  go_enter Try.func9, Try.ntmps9
  refine wp_seq ?_
  refine piece (call := call) (f := 9) (fuel := 1000) (tm := [.agg (c_law12_Case q)] ++ List.replicate 105 .junk) mixed goodHH hcS (by kernel_rfl) (sim_all W) (.cons _ _ _ _ _ _ h (reps_junk (List.replicate 105 undef))) (hp1 := ?hp1) (tm1 := ?tm1) ?eq ?_
  case eq => (conv => lhs; whnf)
  intro S1 w1 φ1 a1 hs1 ht1 T1 d1
  refine wp_seq ?_
  refine piece (call := call) (f := 9) (fuel := 1000) mixed goodHH hcS (by kernel_rfl) hs1 ht1 (hp1 := ?hp2) (tm1 := ?tm2) ?eq ?_
  case eq =>
    (conv => lhs; whnf)
    simp only [F1]
    (conv => lhs; whnf)
    simp only [F2]
    (conv => lhs; whnf)
    simp only [ls, hp0]
    (conv => lhs; whnf)
  intro S2 w2 φ2 a2 hs2 ht2 T2 d2
  refine wp_seq ?_
  refine piece (call := call) (f := 9) (fuel := 1000) mixed goodHH hcS (by kernel_rfl) hs2 ht2 (hp1 := ?hp3) (tm1 := ?tm3) ?eq ?_
  case eq =>
    (conv => lhs; whnf)
    simp only [F3]
    (conv => lhs; whnf)
  intro S3 w3 φ3 a3 hs3 ht3 T3 d3
  refine wp_seq ?_
  refine piece (call := call) (f := 9) (fuel := 1000) mixed goodHH hcS (by kernel_rfl) hs3 ht3 (hp1 := ?hp4) (tm1 := ?tm4) ?eq ?_
  case eq =>
    (conv => lhs; whnf)
    simp only [hl0]
    (conv => lhs; whnf)
  intro S4 w4 φ4 a4 hs4 ht4 T4 d4
  refine wp_seq ?_
  refine piece (call := call) (f := 9) (fuel := 1000) mixed goodHH hcS (by kernel_rfl) hs4 ht4 (hp1 := ?hp5) (tm1 := ?tm5) ?eq ?_
  case eq =>
    (conv => lhs; whnf)
    simp only [g1]
    (conv => lhs; whnf)
    try simp only [F4]
    try (conv => lhs; whnf)
  intro S5 w5 φ5 a5 hs5 ht5 T5 d5
  refine wp_seq ?_
  refine piece (call := call) (f := 9) (fuel := 1000) mixed goodHH hcS (by kernel_rfl) hs5 ht5 (hp1 := ?hp6) (tm1 := ?tm6) ?eq ?_
  case eq =>
    (conv => lhs; whnf)
    simp only [g2]
    (conv => lhs; whnf)
    simp only [g3, F5]
    (conv => lhs; whnf)
  intro S6 w6 φ6 a6 hs6 ht6 T6 d6
  clear F1 F2 F3 F4 F5 g1 g2 g3
  have hB6 := T1.below.trans (T2.below.trans (T3.below.trans (T4.below.trans (T5.below.trans T6.below))))
  have hdf : a6.defers = [] := d6.trans (d5.trans (d4.trans (d3.trans (d2.trans d1))))
  obtain ⟨b0, vs, E0, hφ0, hB0, hh0, hv0, ho0, hn0⟩ := hs6.obj 0 _ rfl
  have e1 := at_ptr (show Rep S6 w6 _ φ6 (.ptr 0 0) (a6.tmps.getD 1 undef) from reps_nth ht6 1) hφ0
  have e6 := (shut_int (show Rep S6 w6 _ φ6 (iA 8) (a6.tmps.getD 6 undef) from reps_nth ht6 6)).2
  have e8 := (shut_int (show Rep S6 w6 _ φ6 (iA 8) (a6.tmps.getD 8 undef) from reps_nth ht6 8)).2
  have hsz : a6.tmps.size = 106 := by
    have := ht6.length
    rw [Array.length_toList] at this
    exact this.symm
  have hcell := hs6.cell
  clear ht6 ht5 ht4 ht3 ht2 ht1 hs1 hs2 hs3 hs4 hs5 hs6 T1 T2 T3 T4 T5 T6 d1 d2 d3 d4 d5 d6
  obtain ⟨tmps, df⟩ := a6
  obtain rfl : df = [] := hdf

  obtain ⟨t, htm⟩ := arrF106 tmps hsz
  dsimp only at e1 e6 e8 htm
  rw [htm] at e1 e6 e8
  replace e1 : t 1 = _ := e1
  replace e6 : t 6 = _ := e6
  replace e8 : t 8 = _ := e8
  rw [e1, e6, e8] at htm
  clear e1 e6 e8
  subst htm
  clear hsz
  obtain ⟨k1, c1, k2, c2, k3, c3, k4, c4, k5, c5, k6, c6, k7, c7, rfl, hRU, hRC, h8, ho8⟩ := case_cells hv0
  obtain ⟨n1, hn1⟩ : ∃ n, q.f_U.init.length = n := ⟨_, rfl⟩
  obtain ⟨n2, hn2⟩ : ∃ n, q.f_U.regs.length = n := ⟨_, rfl⟩
  obtain ⟨n3, hn3⟩ : ∃ n, q.f_U.code.length = n := ⟨_, rfl⟩
  obtain ⟨n4, hn4⟩ : ∃ n, q.f_C.pc.length = n := ⟨_, rfl⟩
  obtain ⟨n5, hn5⟩ : ∃ n, q.f_C.regs.length = n := ⟨_, rfl⟩
  obtain ⟨n6, hn6⟩ : ∃ n, q.f_C.mem.length = n := ⟨_, rfl⟩
  obtain ⟨n7, hn7⟩ : ∃ n, q.f_C.buf.length = n := ⟨_, rfl⟩
  have hC6 := dec_confV hRC
  rw [hn4, hn5, hn6, hn7] at hC6
  rw [hn1, hn2, hn3, hn4, hn5, hn6, hn7] at hh0 ho0
  rw [hn4, hn5, hn6, hn7] at hRC
  rw [hn1, hn2, hn3, hn4, hn5, hn6, hn7] at h8 ho8
  have FA : Fresh w6 b0 (.cells #[.int .i64 q.f_U.mod, .slice k1 n1 c1, .slice k2 n2 c2, .slice k3 n3 c3, .slice k4 n4 c4, .slice k5 n5 c5, .slice k6 n6 c6, .slice k7 n7 c7, .int .i64 q.f_Model, .int .i64 q.f_Room] E0) := hh0
  have y4 := (FA.open (k := 4) rfl).1; have y5 := (FA.open (k := 5) rfl).1; have y6 := (FA.open (k := 6) rfl).1; have y7 := (FA.open (k := 7) rfl).1
  have HC6 := Lib.hid hC6; have HFA := Lib.hid FA; have HB6 := Lib.hid hB6; have HN := Lib.hid hn0; have HCL := Lib.hid hcell; have HHR := Lib.hid hr; have HEV := Lib.hid hev; have HBF := Lib.hid hbf; have HLC := Lib.hid hlc; have HPC := Lib.hid (show 0 < q.f_C.pc.length by rw [beq_eq_false_iff_ne] at hp0; omega)
  have H8 := Lib.hid h8; have HO8 := Lib.hid ho8
  have N4 := Lib.hid hn4; have N5 := Lib.hid hn5; have N6 := Lib.hid hn6; have N7 := Lib.hid hn7
  clear hRU hRC h8 ho8 hC6 FA hB6 hn0 hcell hh0 ho0 hr hev hbf hlc hn1 hn2 hn3 hn4 hn5 hn6 hn7 hw hpos hle hl0 hp0 hl hb hlu h hne hφ0
  refine wp_seq ?_
  go_wp2_with fail
  refine (rcopyo_any w6 _ q.f_C HC6.out HLC.out).mono ?_
  rintro e w7 ⟨hb7, vp, vr, vm, vb, xr, xb, rfl, hO⟩
  obtain ⟨p1, p2, p3, rfl⟩ := ownsR_form hO.pc
  obtain ⟨r1, r2, r3, rfl⟩ := ownsR_form hO.regs.own
  obtain ⟨m1, m2, m3, rfl⟩ := ownsR_form hO.mem
  have hn0 : 0 < q.f_C.buf.length := by
    have h1 := HEV.out; have h2 := HPC.out
    obtain ⟨ha, hb⟩ := h1
    omega
  obtain ⟨g, cap, hcs, rfl, hg6, hgg, _⟩ := ownsR_get hO.buf.own (by rw [List.length_map]; exact hn0)
  obtain ⟨x0, hx0⟩ : ∃ x, xb[0]? = some x := ⟨_, List.getElem?_eq_getElem (by have := hO.buf.len; rw [List.length_map] at this; omega)⟩
  obtain ⟨br, hbr⟩ : ∃ b, q.f_C.buf[0]? = some b := ⟨_, List.getElem?_eq_getElem hn0⟩
  obtain ⟨m, hm⟩ := hO.buf.row 0 x0 _ hx0 (by rw [List.getElem?_map, hbr]; rfl)
  obtain rfl := owns_len hm (by decide) (k := br.length) (flat_length entC 2 entC_len br)
  have hbl : br.length ≤ 255 := by
    obtain ⟨h1, rfl⟩ := List.getElem?_eq_some_iff.1 hbr
    exact HBF.out 0 h1
  have hgc : w7.cell? ⟨g, 0, none⟩ = some x0 := by
    have ho := hO.buf.own
    rcases owns_split ho with ⟨h, _⟩ | ⟨g', cap', ex, h, _, hh, _⟩
    · cases h
    · obtain ⟨rfl⟩ : g = g' := by injection h with h1; injection h1 with h1; injection h1
      have h2 : (xb ++ ex)[0]? = some x0 := by rw [List.getElem?_append_left (List.getElem?_eq_some_iff.1 hx0).1]; exact hx0
      simp only [World.cell?, hh]
      simpa using h2
  rw [List.length_map] at hO ⊢
  have HO := Lib.hid hO; have HB7 := Lib.hid hb7; have HX0 := Lib.hid hx0; have HBR := Lib.hid hbr; have HM := Lib.hid hm; have HGC := Lib.hid hgc; have HGG := Lib.hid hgg; have HG6 := Lib.hid hg6
  clear hO hb7 hx0 hbr hm hgc hgg hg6
  obtain ⟨n8, hn8⟩ : ∃ n, q.f_C.buf.length = n := ⟨_, rfl⟩
  rw [hn8] at HO hn0 ⊢
  obtain ⟨W8, hW8⟩ : ∃ w, w = w7.alloc (.cells #[.slice p1 p2 p3, .slice r1 r2 r3, .slice m1 m2 m3, .slice (some ⟨g, 0, none⟩) n8 cap] 31) := ⟨_, rfl⟩
  have hb8 : Below w7.heap.size w7 W8 := hW8 ▸ (Below.refl _ _).alloc (Nat.le_refl _) _
  have hs8 : W8.heap.size = w7.heap.size + 1 := by rw [hW8]; exact World.size_alloc _ _
  have fd : Fresh W8 w7.heap.size (.cells #[.slice p1 p2 p3, .slice r1 r2 r3, .slice m1 m2 m3, .slice (some ⟨g, 0, none⟩) n8 cap] 31) := hW8 ▸ Fresh.new _ _
  have HB8 := Lib.hid hb8; have HS8 := Lib.hid hs8; have FD := Lib.hid fd
  go_upto_region 9 with (fail)
  rw [← hW8]
  clear hW8 hb8 hs8 fd
  have hS8 : W8.drew.cell? ⟨w7.heap.size, 3, none⟩ = some (.slice (some ⟨g, 0, none⟩) n8 cap) ∧ W8.drew.cell? ⟨g, 0, none⟩ = some x0 := ⟨(FD.out.open (k := 3) rfl).1, show W8.cell? _ = _ from cell_later HB8.out HGC.out⟩
  refine wp_region_heldT 9 [(0, true), (1, true), (2, true), (3, true), (4, true), (5, true), (6, true), (7, false), (8, false)] (fun w' => w'.cell? ⟨w7.heap.size, 3, none⟩ = some (.slice (some ⟨g, 0, none⟩) n8 cap) ∧ w'.cell? ⟨g, 0, none⟩ = some x0) (by kernel_rfl) (by kernel_rfl) hS8 ?_
  clear hS8
  intro wd hwd hbd
  refine wpHeld_w rfl rfl (.pointer (some ⟨w7.heap.size, 3, none⟩)) (fun w' hS => ?_) (fun K hK => ?_)
  · obtain ⟨hS1, hS2⟩ := hS
    go_simp
  go_simp
  refine hK _ ?_
  clear hK K
  refine wpHeld_w rfl rfl (.slice (some ⟨g, 0, none⟩) n8 cap) (fun w' hS => ?_) (fun K hK => ?_)
  · obtain ⟨hS1, hS2⟩ := hS
    go_simp
  go_simp
  refine hK _ ?_
  clear hK K
  refine wpHeld_w rfl rfl (.pointer (some ⟨w7.heap.size, 3, none⟩)) (fun w' hS => ?_) (fun K hK => ?_)
  · obtain ⟨hS1, hS2⟩ := hS
    go_simp
  go_simp
  refine hK _ ?_
  clear hK K
  refine wpHeld_w rfl rfl (.slice (some ⟨g, 0, none⟩) n8 cap) (fun w' hS => ?_) (fun K hK => ?_)
  · obtain ⟨hS1, hS2⟩ := hS
    go_simp
  go_simp
  refine hK _ ?_
  clear hK K
  refine wpHeld_w rfl rfl (.pointer (some ⟨g, 0, none⟩)) (fun w' hS => ?_) (fun K hK => ?_)
  · obtain ⟨hS1, hS2⟩ := hS
    go_simp
  go_simp
  refine hK _ ?_
  clear hK K
  refine wpHeld_w rfl rfl (x0) (fun w' hS => ?_) (fun K hK => ?_)
  · obtain ⟨hS1, hS2⟩ := hS
    go_simp
  go_simp
  refine hK _ ?_
  clear hK K
  refine wpHeld_w rfl rfl (.agg #[.int .i64 0, .int .i64 0]) (fun w' hS => ?_) (fun K hK => ?_)
  · obtain ⟨hS1, hS2⟩ := hS
    go_simp
  go_simp
  refine hK _ ?_
  clear hK K
  have HBD := Lib.hid (HB8.out.trans (hbd.mono (by have := HS8.out; omega)))
  have hD3 : wd.cell? ⟨w7.heap.size, 3, none⟩ = some (.slice (some ⟨g, 0, none⟩) n8 cap) := cell_later hbd (FD.out.open (k := 3) rfl).1
  have hG0 : wd.cell? ⟨g, 0, none⟩ = some x0 := cell_later HBD.out HGC.out
  have HSD := Lib.hid (show wd.heap.size = w7.heap.size + 1 by rw [hwd]; exact HS8.out)
  have FDD := Lib.hid (FD.out.later hbd)
  clear hwd hbd
  refine wpHeld_s rfl rfl (fun K hK => ?_)
  go_simp
  refine hK _ _ ⟨cell_later ((Below.refl _ _).alloc (Nat.le_refl _) _) hD3, cell_later ((Below.refl _ _).alloc (Nat.le_refl _) _) hG0⟩ ?_
  clear hK K
  obtain ⟨e0, ei, ei0, ei1, ei2⟩ : ∃ i, Try.prog.info? 40 = some i ∧ i.zero = some (.agg #[.int .i64 0, .int .i64 0]) ∧ i.size = 2 ∧ i.bytes = 16 := info_of (by kernel_rfl)
  obtain ⟨WA, hWA⟩ : ∃ WA, wd.alloc (.cells #[.int .i64 0, .int .i64 0] 40) = WA := ⟨_, rfl⟩
  have hbA : Below wd.heap.size wd WA := hWA ▸ (Below.refl _ _).alloc (Nat.le_refl _) _
  have hnA : WA.heap[wd.heap.size]? = some (.cells #[.int .i64 0, .int .i64 0] 40 (0, 0)) := hWA ▸ heap_alloc_new wd _
  have hsA : WA.heap.size = wd.heap.size + 1 := by rw [← hWA]; exact World.size_alloc _ _
  rw [hWA]
  clear hWA hD3 hG0
  have HBA := Lib.hid (HBD.out.trans (hbA.mono (by have := HSD.out; omega)))
  have HMA := Lib.hid (owns_below HM.out HBA.out)
  have HGA := Lib.hid (show WA.heap[g]? = some (.cells hcs 38 (0, 0)) from (HBA.out.block g (Array.getElem?_eq_some_iff.1 HGG.out).1).trans HGG.out)
  have HDA := Lib.hid (FDD.out.later hbA)
  have HNA := Lib.hid hnA
  have HSA := Lib.hid hsA
  clear hbA hnA hsA
  refine wpHeld_s rfl rfl (fun K hK => ?_)
  refine wp_append_lies _ _ _ 38 rfl w6.heap.size 40 e0 _ 2 16 Try.underlying38 ei ei0 ei1 ei2 rfl (by decide) x0 br.length (br.flatMap entC) rfl HMA.out ⟨wd.heap.size, 0, none⟩ 1 1 [.int .i64 0, .int .i64 0] rfl rfl (World.news_of_block HNA.out) (by intro u hu; simp at hu; rw [hu]; rfl) (by decide) ?a1 ?a2 ?a3 _ rfl ?_
  case a1 => unfold maxLen; omega
  case a2 => omega
  case a3 => have := HB7.out.size; have := HSD.out; have := HSA.out; omega
  intro g' cp w9 hw9 hgr hlc hlt9
  have hk9 := keeps_grown HMA.out hgr
  have hg9 := (hk9 g _ _ _ HGA.out (by decide)).trans HGA.out
  have hd9 := HDA.out.keeps hk9 (by decide)
  have hc9 : w9.cell? ⟨g, 0, none⟩ = some x0 := (World.cell?_of_block (a := ⟨g, 0, none⟩) (hk9 g _ _ _ HGA.out (by decide))).trans (cell_later HBA.out HGC.out)
  have hf9 : w9.frozen? ⟨g, 0, none⟩ = false := by simp [World.frozen?, hg9]
  go_simp
  refine hK _ _ ⟨(hd9.open (k := 3) rfl).1, hc9⟩ ?_
  clear hK K
  have HW9 := Lib.hid hw9; have HGR := Lib.hid hgr; have HLG := Lib.hid hlc; have HK9 := Lib.hid hk9; have HD9 := Lib.hid hd9; have HG9 := Lib.hid hg9
  clear hw9 hgr hlc hk9 hd9 hg9 hlt9
  refine wpHeld_nil ?_
  simp only [List.drop_succ_cons, List.drop_zero]
  go_upto_region 10 with (fail)
  have hDne : g ≠ w7.heap.size := by
    have := (Array.getElem?_eq_some_iff.1 HGG.out).1
    omega
  have hz7 := HB7.out.size
  have hA9 : Below w6.heap.size w6 w9 := (HB7.out.trans (HBA.out.mono hz7)).grown HGR.out (by have := HBA.out.size; omega) fun k hk => (ownsR_block HMA.out hk).1
  have hB10 := hA9.setCell (p := ⟨g, 0, none⟩) HG6.out (.slice (some ⟨g', 0, none⟩) (br.length + 1) cp)
  have hcp : CopyIs w6.heap.size WA q.f_C (.slice p1 p2 p3) (.slice r1 r2 r3) (.slice m1 m2 m3) (.slice (some ⟨g, 0, none⟩) n8 cap) xr xb := ⟨owns_below HO.out.pc HBA.out, HO.out.regs.below HBA.out, owns_below HO.out.mem HBA.out, HO.out.buf.below HBA.out⟩
  have hcp2 := hcp.putBuf (b' := br ++ [⟨0, 0⟩]) (m := br.length + 1) HX0.out HK9.out (fun b h1 h2 => HGR.out.block b h1 (Ne.symm h2)) (by rw [List.flatMap_append]; exact HW9.out) (fun b h1 => by
    obtain rfl : g' = b := by simpa [Value.ownBlock] using h1
    rcases HLG.out with h | h
    · exact .inl h
    · exact .inr (by omega)) (g := g) rfl
  replace hcp2 : CopyIs w6.heap.size _ (moreC q.f_C br) _ _ _ _ xr _ := hcp2
  have hwf := HC6.out.wf
  have hwf2 : WfC (moreC q.f_C br) := ⟨hwf.pc, hwf.regs, hwf.mem, fun b hb x hx => by
    rcases List.mem_or_eq_of_mem_set hb with h | rfl
    · exact hwf.buf b h x hx
    · rcases List.mem_append.1 hx with h | h
      · exact hwf.buf br (List.mem_of_getElem? HBR.out) x h
      · rw [List.mem_singleton] at h; rw [h]; exact ⟨by decide, by decide⟩⟩
  have hd10 : Fresh (w9.setCell ⟨g, 0, none⟩ (.slice (some ⟨g', 0, none⟩) (br.length + 1) cp)) w7.heap.size (.cells #[.slice p1 p2 p3, .slice r1 r2 r3, .slice m1 m2 m3, .slice (some ⟨g, 0, none⟩) n8 cap] 31) := (Below.heap_setCell w9 ⟨g, 0, none⟩ _ _ (Ne.symm hDne)).trans HD9.out
  obtain ⟨w10, hw10⟩ : ∃ w10, w9.setCell ⟨g, 0, none⟩ (.slice (some ⟨g', 0, none⟩) (br.length + 1) cp) = w10 := ⟨_, rfl⟩
  rw [hw10] at hcp2 hd10 hB10 ⊢
  clear hw10
  have hb0 : b0 < w6.heap.size := (Array.getElem?_eq_some_iff.1 (show w6.heap[b0]? = _ from HFA.out)).1
  have hrep := hcp2.rep (S := fun b o => S6 b o ∨ (w6.heap.size ≤ b ∧ b ≠ w7.heap.size ∧ ∃ v, stay w10 b o = some v ∧ v.2.2 = (0, 0))) hwf2 (fun k cs E o h1 h2 h3 h4 => .inr ⟨h1, fun e => by
    subst e
    unfold Fresh at hd10
    rw [hd10] at h2
    obtain ⟨_, rfl⟩ : _ ∧ 31 = E := by injection h2 with h2; injection h2 with a b c; exact ⟨a, b⟩
    revert h3; decide, (cs[o], none, (0, 0)), stay_at h2 (by simp [World.cell?, h2, h4]), rfl⟩)
  have hext : SExt S6 w6 (fun b o => S6 b o ∨ (w6.heap.size ≤ b ∧ b ≠ w7.heap.size ∧ ∃ v, stay w10 b o = some v ∧ v.2.2 = (0, 0))) w10 := fun b o h => ⟨.inl h, by
    obtain ⟨v, hv, _⟩ := HCL.out b o h
    exact stay_heap (hB10.block b (stay_lt hv)) o⟩
  obtain ⟨ws, hws, hwo, hwe⟩ := hrep.agg_inv
  obtain rfl : ws = [.slice p1 p2 p3, .slice r1 r2 r3, .slice m1 m2 m3, .slice (some ⟨g, 0, none⟩) n8 cap] := by
    injection hwe with hwe
    have := congrArg Array.toList hwe
    simpa using this.symm
  have hs : Sim Try.prog W.heap.size (fun b o => S6 b o ∨ (w6.heap.size ≤ b ∧ b ≠ w7.heap.size ∧ ∃ v, stay w10 b o = some v ∧ v.2.2 = (0, 0))) w10 [.var 42 (c_law12_Case q), .var 31 (cellsC (moreC q.f_C br))] [.blk b0, .blk w7.heap.size] := by
    refine ⟨rfl, (HB6.out.trans (hB10.mono HB6.out.size)).size, ?_, ?_, ?_⟩
    · rintro b o (h | ⟨_, _, v, h1, h2⟩)
      · obtain ⟨v, h1, h2⟩ := HCL.out b o h
        exact ⟨v, (hext b o h).2.trans h1, h2⟩
      · exact ⟨v, h1, fun _ => h2⟩
    · intro id o ho
      match id, ho with
      | 0, ho =>
        cases ho
        refine ⟨b0, _, E0, rfl, hB0, (hB10.block b0 hb0).trans HFA.out, Reps.lift (Reps.mono hext H8.out (.refl _ _)), HO8.out, fun o h => ?_⟩
        rcases h with h | ⟨h, _⟩
        · exact HN.out o h
        · omega
      | 1, ho =>
        cases ho
        refine ⟨w7.heap.size, _, _, rfl, by have := HB6.out.size; omega, hd10, Reps.lift hws, hwo, fun o h => ?_⟩
        rcases h with h | ⟨_, h, _⟩
        · obtain ⟨v, h1, _⟩ := HCL.out _ o h
          have := stay_lt h1; omega
        · exact h rfl
      | n + 2, ho => simp at ho
    · intro i j b hi hj
      match i, j with
      | 0, 0 => rfl
      | 1, 1 => rfl
      | 0, 1 => simp [blockAt] at hi hj; omega
      | 1, 0 => simp [blockAt] at hi hj; omega
      | n + 2, _ => simp [blockAt] at hi
      | 0, n + 2 => simp [blockAt] at hj
      | 1, n + 2 => simp [blockAt] at hj
  have G1 := (hc _ _ _).trans (ok_pack_Size (psize_m 1000 (moreC q.f_C br) (moreC_light HLC.out HBF.out HBR.out) (by omega)))
  have G2 := (hc _ _ _).trans (ok_pack_Size (psize_m 1000 q.f_C HLC.out (by omega)))
  have G3 := (hc _ _ _).trans (ok_law12_known (n := 1000) (r := true) rfl)
  rw [moreC_size HBR.out] at G1
  have G4 : (((sizeC q.f_C + 2 : Nat) : Int) == IntKind.i64.wrap (((sizeC q.f_C : Nat) : Int) + 2)) = true := by
    have hsz : sizeC q.f_C ≤ 6000 := by
      obtain ⟨s1, s2⟩ := HLC.out.sums
      have := HLC.out.pc; have := HLC.out.mem
      rw [sizeC]; omega
    rw [wrap64 (by omega)]
    exact beq_iff_eq.2 (by omega)
  refine tail_by2 (call := call) (f := 9) (fuel := 1000) (tm := ((((List.replicate 106 AV.junk).set 1 (.ptr 0 0)).set 6 (iA 8)).set 8 (iA 8)).set 9 (.ptr 1 0)) mixed goodHH hcS (by kernel_rfl) (by kernel_rfl) hs ?_ rfl rfl ?_ (fun w' hb => ⟨rfl, HB6.out.trans (hB10.mono HB6.out.size) |>.trans hb⟩) (by assumption)
  · exact reps_at4 (.ptr _ _ 0 0 _ rfl) (.int _ _ _ _ (by decide)) (.int _ _ _ _ (by decide)) (.ptr _ _ 1 0 _ rfl) rfl rfl rfl rfl rfl
  · (conv => lhs; whnf)
    simp only [G1]
    (conv => lhs; whnf)
    simp only [G2]
    (conv => lhs; whnf)
    simp only [G4]
    (conv => lhs; whnf)
    simp only [G3]
    (conv => lhs; whnf)
    rfl
end Go.Proofs.Ytejkhpgahnncnaa
end

