/- Parts of the proofs: what they lean on. Conditions: none. -/
import Derived.StillTail
import Derived.OneCell
import Derived.Test.YtejkhpgahnncnaaPdcS11
section
namespace Go.Proofs.Ytejkhpgahnncnaa
open Go.RowKit
set_option linter.unusedVariables false
set_option linter.unusedSimpArgs false

section
variable {P : Program} {ops : Array Oper} {md : Region.Mode} {w0 : World}

abbrev News := List (Nat × Obj)
def NewAt (P : Program) (ops : Array Oper) (w0 : World) (o : Oper) (F : Nat → Value) (ob : Obj) (a : Act) : Prop :=
  Region.wanted o (yielded ops a.tmps) = true ∧ ∀ w', Below w0.heap.size w0 w' → (execOp a.eval o).run P w' = .ok (.value (F w'.heap.size)) (w'.alloc ob)
theorem NewAt.of_same {o : Oper} {F : Nat → Value} {ob : Obj} {a a' : Act} (hy : NewAt P ops w0 o F ob a) (he : execOp a'.eval o = execOp a.eval o)
    (hw : Region.wanted o (yielded ops a'.tmps) = Region.wanted o (yielded ops a.tmps)) : NewAt P ops w0 o F ob a' := by
  unfold NewAt at *
  rw [hw, he]; exact hy

def nOp (P : Program) (ops : Array Oper) (w0 : World) (i : Nat) (b : News) (K : News → Act → Prop) (a : Act) : Prop :=
  match ops[i]? with
  | none => K b a
  | some o => (∃ v, LYields P ops w0 o v a ∧ K b (a.put o.dst v)) ∨ (∃ F ob, NewAt P ops w0 o F ob a ∧ ∀ B, w0.heap.size ≤ B → (∀ p ∈ b, p.1 < B) → K ((B, ob) :: b) (a.put o.dst (F B)))

theorem nOp_mono {i : Nat} {b : News} {a : Act} {K K' : News → Act → Prop} (h : ∀ b a, K b a → K' b a) (hh : nOp P ops w0 i b K a) : nOp P ops w0 i b K' a := by
  unfold nOp at *
  split
  · rename_i ho; simp only [ho] at hh; exact h _ _ hh
  · rename_i o ho
    simp only [ho] at hh
    rcases hh with ⟨v, hy, hk⟩ | ⟨F, ob, hn, hk⟩
    · exact .inl ⟨v, hy, h _ _ hk⟩
    · exact .inr ⟨F, ob, hn, fun B hB hp => h _ _ (hk B hB hp)⟩

theorem nOp_put {j : Nat} {oi oj : Oper} {v : Value} (hj : ops[j]? = some oj) (hap : oi.apart ops oj = true)
    (hsi : ∀ cs b, oi.op ≠ .select cs b) (hsj : ∀ cs b, oj.op ≠ .select cs b) {b : News} {K : News → Act → Prop} {a : Act}
    (hy : LYields P ops w0 oi v a) (h : nOp P ops w0 j b K (a.put oi.dst v)) :
    nOp P ops w0 j b (fun b' a' => LYields P ops w0 oi v a' ∧ K b' (a'.put oi.dst v)) a := by
  obtain ⟨h1, h2, h3⟩ := Oper.apart_spec hap
  have keep : ∀ (a : Act), LYields P ops w0 oi v a → ∀ u, LYields P ops w0 oi v (a.put oj.dst u) := fun a hy u =>
    hy.of_same (execOp_put oi hsi a oj.dst u h3) (wanted_put oi a oj.dst u h3)
  unfold nOp at *
  simp only [hj] at *
  rcases h with ⟨u, hu, hn⟩ | ⟨F, ob, hu, hn⟩
  · exact .inl ⟨u, hu.of_same (execOp_put oj hsj a oi.dst v h1).symm (wanted_put oj a oi.dst v h1).symm, keep a hy u, by rw [← Act.put_comm a v u h2]; exact hn⟩
  · exact .inr ⟨F, ob, hu.of_same (execOp_put oj hsj a oi.dst v h1).symm (wanted_put oj a oi.dst v h1).symm, fun B hB hp => ⟨keep a hy _, by rw [← Act.put_comm a v _ h2]; exact hn B hB hp⟩⟩

def nAny (P : Program) (md : Region.Mode) (ops : Array Oper) (w0 : World) (n : Nat) (L : Array Bool → News → Act → Prop) : Nat → Array Bool → News → Act → Prop
  | 0, listed, b, a => L listed b a
  | f + 1, listed, b, a =>
    Region.ready md ops listed ≠ [] ∧ ∀ i ∈ Region.ready md ops listed, i < n ∧ nOp P ops w0 i b (fun b' a' => nAny P md ops w0 n L f (listed.setIfInBounds i true) b' a') a

theorem wpOp_of_nOp {i : Nat} {b : News} {a : Act} {K : News → Act → Prop} {K' : Act → World → Prop} {Q' : Exit → Act → World → Prop} {w : World} (hw : Below w0.heap.size w0 w) (hb : ∀ p ∈ b, Fresh w p.1 p.2)
    (h : ∀ b' a' w', Below w0.heap.size w0 w' → (∀ p ∈ b', Fresh w' p.1 p.2) → K b' a' → K' a' w') (hh : nOp P ops w0 i b K a) : wpOp P ops Q' i K' a w := by
  unfold nOp at hh
  unfold wpOp
  split
  · rename_i ho; simp only [ho] at hh; exact h _ _ _ hw hb hh
  · rename_i oi ho
    simp only [ho] at hh
    rcases hh with ⟨v, hy, hk⟩ | ⟨F, ob, ⟨hwt, hrun⟩, hk⟩
    · rcases hy with ⟨hwt, hq⟩ | ⟨hwt, rfl⟩
      · rw [if_pos hwt]
        left
        have h3 := hq ⟨w, hw⟩
        unfold Oper.quietAt at h3
        unfold Oper.wp
        dsimp only at h3
        generalize (execOp a.eval oi).run P w = r at *
        cases r with
        | ok n w' =>
          cases n <;> simp only [Oper.quietUpon] at h3 <;> simp only [Oper.upon]
          case value u =>
            obtain ⟨e1, e2⟩ := h3
            rw [e1, e2]
            exact h _ _ _ hw hb hk
          case skip =>
            obtain ⟨e1, e2⟩ := h3
            rw [e1, ← e2]
            exact h _ _ _ hw hb hk
          case enter f args =>
            obtain ⟨e1, hc⟩ := h3
            rw [e1]
            exact hc.mono fun e w'' ⟨he, hw''⟩ => by
              subst he
              exact h _ _ _ (hw.trans (hw''.mono hw.size)) (fun p hp => (hb p hp).later hw'') hk
        | halt x w' => simp only [Oper.quietUpon] at h3
      · rw [if_neg (by rw [hwt]; exact Bool.false_ne_true)]
        exact h _ _ _ hw hb hk
    · rw [if_pos hwt]
      left
      unfold Oper.wp
      rw [hrun w hw]
      simp only [Oper.upon]
      have hz := hw.size
      refine h _ _ _ (hw.alloc hz _) (fun p hp => ?_) (hk w.heap.size hz fun p hp => (Array.getElem?_eq_some_iff.1 (hb p hp)).1)
      rcases List.mem_cons.1 hp with rfl | hp
      · exact heap_alloc_new w ob
      · exact (hb p hp).later ((Below.refl _ _).alloc (Nat.le_refl _) _)

theorem wpAny_of_nhead {n g : Nat} {L : Array Bool → News → Act → Prop} {Q' : Exit → Act → World → Prop}
    (hL : ∀ listed b a w, Below w0.heap.size w0 w → (∀ p ∈ b, Fresh w p.1 p.2) → L listed b a → wpAny P md ops Q' g listed a w) :
    ∀ (f : Nat) (listed : Array Bool) (b : News) (a : Act) (w : World), Below w0.heap.size w0 w → (∀ p ∈ b, Fresh w p.1 p.2) → nAny P md ops w0 n L f listed b a → wpAny P md ops Q' (f + g) listed a w
  | 0, listed, b, a, w, hw, hb, h => by rw [Nat.zero_add]; exact hL _ _ _ _ hw hb h
  | f + 1, listed, b, a, w, hw, hb, h => by
    rw [show f + 1 + g = (f + g) + 1 by omega]
    exact ⟨fun h0 => absurd h0 h.1, fun i hi => wpOp_of_nOp hw hb (fun b' a' w' hw' hb' h' => wpAny_of_nhead hL f _ b' a' w' hw' hb' h') (h.2 i hi).2⟩

theorem LYields.nOp {i : Nat} {oi : Oper} {v : Value} {b : News} {a : Act} (hi : ops[i]? = some oi) (hy : LYields P ops w0 oi v a) {K : News → Act → Prop} (h : K b (a.put oi.dst v)) : nOp P ops w0 i b K a := by
  unfold Proofs.Ytejkhpgahnncnaa.nOp
  simp only [hi]
  exact .inl ⟨v, hy, h⟩

theorem nAny_first {n i : Nat} {oi : Oper} {v : Value} {L : Array Bool → News → Act → Prop} (hi : ops[i]? = some oi) (hsel : ∀ (j : Nat) (o : Oper) cs b, ops[j]? = some o → o.op ≠ .select cs b)
    (hs : Region.sinkB md ops n = true) (hc : Region.chainB md ops n = true) (hn : n < ops.size) (hin : i < n)
    (hdone : ∀ listed b a, L listed b a → ∀ j ∈ Region.ready md ops listed, n ≤ j) :
    ∀ (f : Nat) (listed : Array Bool) (b : News) (a : Act), HeadInv md ops n listed →
      (∀ j oj, ops[j]? = some oj → j ≠ i → listed.getD j true = false → (∀ e ∈ oj.after, Region.binds md e = true → e.on ≠ i) → oi.apart ops oj = true) →
      i ∈ Region.ready md ops listed → LYields P ops w0 oi v a →
      nAny P md ops w0 n L f (listed.setIfInBounds i true) b (a.put oi.dst v) → nAny P md ops w0 n L (f + 1) listed b a := by
  intro f
  induction f with
  | zero =>
    intro listed b a inv _ hr hy H
    have hun := (mem_ready.1 hr).1
    refine ⟨fun h => (by rw [h] at hr; cases hr), fun j hj => ?_⟩
    have hjn : j < n := by
      rcases Nat.lt_or_ge j n with h | h
      · exact h
      · exact absurd hj (tail_waits hs hc hn inv _ i rfl hin hun j h)
    refine ⟨hjn, ?_⟩
    by_cases hji : j = i
    · subst hji; exact hy.nOp hi H
    · have := hdone _ _ _ H j (ready_mono hj hji)
      omega
  | succ f ih =>
    intro listed b a inv hfree hr hy H
    have hun := (mem_ready.1 hr).1
    refine ⟨fun h => (by rw [h] at hr; cases hr), fun j hj => ?_⟩
    have hjn : j < n := by
      rcases Nat.lt_or_ge j n with h | h
      · exact h
      · exact absurd hj (tail_waits hs hc hn inv _ i rfl hin hun j h)
    refine ⟨hjn, ?_⟩
    by_cases hji : j = i
    · subst hji; exact hy.nOp hi H
    · have h1 := (H.2 j (ready_mono hj hji)).2
      obtain ⟨hjun, oj, hoj, hall⟩ := mem_ready.1 hj
      have hnot : ∀ e ∈ oj.after, Region.binds md e = true → e.on ≠ i := fun e he hb heq => by
        have h1 := hall e he hb
        rw [heq, getD_both hun] at h1
        cases h1
      have h2 := nOp_put hoj (hfree j oj hoj hji hjun hnot) (fun cs b => hsel i oi cs b hi) (fun cs b => hsel j oj cs b hoj) hy h1
      have hfree' : ∀ k ok, ops[k]? = some ok → k ≠ i → (listed.setIfInBounds j true).getD k true = false →
          (∀ e ∈ ok.after, Region.binds md e = true → e.on ≠ i) → oi.apart ops ok = true := fun k ok hk hki hun hno => by
        refine hfree k ok hk hki ?_ hno
        by_cases hjk : j = k
        · subst hjk; exact hjun
        · rw [getD_set_ne true hjk] at hun; exact hun
      refine nOp_mono (fun b' a' h3 => ih (listed.setIfInBounds j true) b' a' (inv.set hj hjn) hfree' (ready_mono hr (Ne.symm hji)) h3.1 ?_) h2
      rw [Array.setIfInBounds_comm _ _ hji]
      exact h3.2

/-- The walk: first what is quiet, then what lays blocks. -/
def wpNew (P : Program) (ops : Array Oper) (w0 : World) (Q : News → Act → Prop) : List Oper → News → Act → Prop
  | [], b, a => Q b a
  | o :: rest, b, a => ∃ F ob, NewAt P ops w0 o F ob a ∧ ∀ B, w0.heap.size ≤ B → (∀ p ∈ b, p.1 < B) → wpNew P ops w0 Q rest ((B, ob) :: b) (a.put o.dst (F B))

theorem nAny_seq {n g : Nat} {Lq : News → Act → Prop} (hn : n ≤ ops.size) :
    ∀ (l : List Oper) (k : Nat) (listed : Array Bool) (b : News) (a : Act), (∀ j, j < l.length → l[j]? = ops[k + j]?) → k + l.length = n →
    Region.seqB md ops (l.length + g) k listed = true → wpNew P ops w0 Lq l b a →
    nAny P md ops w0 n (fun listed' b a' => Region.seqB md ops g n listed' = true ∧ Lq b a') l.length listed b a
  | [], k, listed, b, a, _, hk, hB, h => by
    obtain rfl : k = n := by simpa using hk
    rw [List.length_nil, Nat.zero_add] at hB
    exact ⟨hB, h⟩
  | o :: l, k, listed, b, a, hl, hk, hB, h => by
    have h0 : ops[k]? = some o := by simpa using (hl 0 (by simp)).symm
    have hkn : k < n := by simp only [List.length_cons] at hk; omega
    rw [List.length_cons, show l.length + 1 + g = (l.length + g) + 1 by omega] at hB
    have hrd : Region.ready md ops listed = [k] ∧ Region.seqB md ops (l.length + g) (k + 1) (listed.setIfInBounds k true) = true := by
      simpa [Region.seqB] using hB
    refine ⟨by rw [hrd.1]; simp, fun j hj => ?_⟩
    rw [hrd.1] at hj
    obtain rfl : j = k := by simpa using hj
    refine ⟨hkn, ?_⟩
    obtain ⟨F, ob, hN, hK⟩ := h
    unfold nOp
    simp only [h0]
    exact .inr ⟨F, ob, hN, fun B hB' hp => nAny_seq hn l (j + 1) _ _ _ (fun i hi => by have := hl (i + 1) (by simp; omega); simpa [Nat.add_assoc, Nat.add_comm 1 i] using this) (by simp only [List.length_cons] at hk; omega) hrd.2 (hK B hB' hp)⟩

theorem nAny_lex {n m g : Nat} {Lq : News → Act → Prop} (hsel : Region.noSelect ops = true) (hs : Region.sinkB md ops n = true) (hc : Region.chainB md ops n = true) (hn : n < ops.size) (r : List Oper) (hr : ∀ j, j < r.length → r[j]? = ops[m + j]?) (hmr : m + r.length = n) :
    ∀ (l : List Oper) (k : Nat) (listed : Array Bool) (a : Act), (∀ j, j < l.length → l[j]? = ops[k + j]?) → k + l.length = m → HeadInv md ops n listed →
    Region.lexHead md ops (r.length + g) l.length k listed = true → wpLater P ops w0 (fun a' => wpNew P ops w0 Lq r [] a') l a →
    nAny P md ops w0 n (fun listed' b a' => Region.seqB md ops g n listed' = true ∧ Lq b a') (l.length + r.length) listed [] a
  | [], k, listed, a, _, hk, inv, hB, h => by
    obtain rfl : k = m := by simpa using hk
    simp only [List.length_nil, Region.lexHead] at hB
    rw [List.length_nil, Nat.zero_add]
    exact nAny_seq (by omega) r k listed [] a hr hmr hB h
  | o :: l, k, listed, a, hl, hk, inv, hB, h => by
    have h0 : ops[k]? = some o := by simpa using (hl 0 (by simp)).symm
    have hkm : k < m := by simp only [List.length_cons] at hk; omega
    rw [List.length_cons, Region.lexHead] at hB
    simp only [Bool.and_eq_true] at hB
    obtain ⟨⟨hrd, hf⟩, hB'⟩ := hB
    have hr' : k ∈ Region.ready md ops listed := by simpa using hrd
    obtain ⟨v, hy, hK⟩ := h
    rw [List.length_cons, show l.length + 1 + r.length = (l.length + r.length) + 1 by omega]
    exact nAny_first h0 (Region.noSelect_spec hsel) hs hc hn (by omega) (fun listed' _ a' hL => seqB_ready hL.1) (l.length + r.length) listed [] a inv (Region.free_spec h0 hf) hr' hy
      (nAny_lex hsel hs hc hn r hr hmr l (k + 1) _ _ (fun j hj => by have := hl (j + 1) (by simp; omega); simpa [Nat.add_assoc, Nat.add_comm 1 j] using this) (by simp only [List.length_cons] at hk; omega) (inv.set hr' (by omega)) hB' hK)

theorem wp_region_news {id : Nat} {Q : Exit → Act → World → Prop} {a : Act} {w : World} {l : List Oper} (m n : Nat) (hm : P.follows .mixedOrders = true) (hmn : m ≤ n)
    (hB : (Region.noSelect l.toArray && decide (n < l.toArray.size) && Region.sinkB .any l.toArray n && Region.chainB .any l.toArray n && Region.lexHead .any l.toArray (l.toArray.size - m) m 0 (Array.replicate l.toArray.size false)) = true)
    (h : wpLater P l.toArray w (fun a' => wpNew P l.toArray w (fun b a' => ∀ w', Below w.heap.size w w' → (∀ p ∈ b, Fresh w' p.1 p.2) → wpList P l.toArray Q (l.drop n) a' w') ((l.drop m).take (n - m)) [] a') (l.take m) a) : (Code.region id l.toArray true).wp P Q a w := by
  simp only [Bool.and_eq_true, decide_eq_true_eq] at hB
  obtain ⟨⟨⟨⟨hsel, hn⟩, hs⟩, hc⟩, hlex⟩ := hB
  have hn' : n < l.length := by simpa using hn
  have htl : (l.take m).length = m := by simp; omega
  have hrl : ((l.drop m).take (n - m)).length = n - m := by simp; omega
  have hdl : (l.drop n).length = l.toArray.size - n := by simp
  have inv0 : HeadInv .any l.toArray n (Array.replicate l.toArray.size false) :=
    ⟨by simp, fun j oj _ hl => (by rw [getD_replicate_false] at hl; cases hl), fun t _ ht => getD_in (by simpa using ht) (getD_replicate_false _ _)⟩
  have H := nAny_lex (P := P) (w0 := w) (md := .any) (m := m) (n := n) (g := l.toArray.size - n) (Lq := fun b a' => ∀ w', Below w.heap.size w w' → (∀ p ∈ b, Fresh w' p.1 p.2) → wpList P l.toArray Q (l.drop n) a' w') hsel hs hc hn ((l.drop m).take (n - m))
    (fun j hj => by rw [hrl] at hj; rw [List.getElem?_take_of_lt hj, List.getElem?_drop]; simp) (by rw [hrl]; omega) (l.take m) 0 _ a (fun j hj => by
    have hj' : j < m := by rw [htl] at hj; exact hj
    simp [hj']) (by simpa using htl) inv0 (by rw [htl, hrl, show n - m + (l.toArray.size - n) = l.toArray.size - m by omega]; exact hlex) h
  refine wp_region_any hm ?_
  have := wpAny_of_nhead (md := .any) (Q' := Q) (g := l.toArray.size - n) (fun listed b a' w' hw' hb hL => by
    obtain ⟨hseq, hq⟩ := hL
    have := wpAny_of_seq (md := .any) (Q' := Q) (l.drop n) n listed a' w' (fun j => by simp [List.getElem?_drop]) (by rw [hdl]; exact hseq) (hq w' hw' hb)
    rwa [hdl] at this) _ _ [] _ w.drew (Below.refl _ _).drew (fun p hp => by cases hp) H
  rw [htl, hrl, show m + (n - m) + (l.toArray.size - n) = l.toArray.size by omega] at this
  exact this
end
end Go.Proofs.Ytejkhpgahnncnaa
end

section
namespace Go.Proofs.Ytejkhpgahnncnaa
open Go.RowKit
set_option linter.unusedVariables false
set_option linter.unusedSimpArgs false

def fenceI : InstrS := ⟨8, 0, 0, [], [], false, 0⟩
def doneI : InstrS := ⟨22, 0, 0, [], [], false, 0⟩
def litU (mod x : Int) : UnitS := ⟨mod, [x], [1], [[fenceI, doneI]]⟩

theorem Sl.lit {α : Type} {r : Rd α} {w : World} {b : Nat} {l : List α} (rows : List (List Value)) (hlen : rows.length = l.length) (hmax : l.length ≤ 1000) (h : ∀ k (hk : k < l.length), ∃ cs, rows[k]? = some cs ∧ cs.length = r.size ∧ (∀ j u, cs[j]? = some u → w.cell? ⟨b, k * r.size + j, none⟩ = some u) ∧ r.rel w cs l[k]) :
    Sl r w (.slice (some ⟨b, 0, none⟩) l.length l.length) l := by
  refine ⟨some ⟨b, 0, none⟩, l.length, rfl, ⟨Nat.le_refl _, by unfold maxLen; omega, by simp⟩, fun k hk => ?_⟩
  obtain ⟨cs, _, h2, h3, h4⟩ := h k hk
  exact ⟨b, 0, cs, rfl, h2, fun j u hj => by rw [Nat.zero_add]; exact h3 j u hj, h4⟩

theorem Sl.nil' {α : Type} (r : Rd α) (w : World) : Sl r w (.slice none 0 0) [] := ⟨none, 0, rfl, by simp, fun k hk => absurd hk (by simp)⟩
theorem wf0 : (Lit.int .i64 0).wf = true := by decide
theorem rel_plain (w : World) (op : Int) (hwf : (Lit.int .i64 op).wf = true) : rInstr.rel w [.int .i64 op, .int .i64 0, .int .i64 0, .slice none 0 0, .slice none 0 0, .bool false, .int .i64 0] ⟨op, 0, 0, [], [], false, 0⟩ :=
  ⟨(op, (0, (0, ([], ([], (false, 0)))))), ⟨⟨rfl, hwf⟩, ⟨rfl, wf0⟩, ⟨rfl, wf0⟩, Sl.nil' _ _, Sl.nil' _ _, rfl, rfl, wf0⟩, rfl⟩

theorem lit_unit {w : World} {mod x : Int} {b1 b2 b3 b4 : Nat} (hm : (Lit.int .i64 mod).wf = true) (hx : (Lit.int .i64 x).wf = true) (h1 : w.cell? ⟨b1, 0, none⟩ = some (.int .i64 x)) (h2 : w.cell? ⟨b2, 0, none⟩ = some (.int .i64 1))
    (h3 : ∀ j u, ([.int .i64 8, .int .i64 0, .int .i64 0, .slice none 0 0, .slice none 0 0, .bool false, .int .i64 0, .int .i64 22, .int .i64 0, .int .i64 0, .slice none 0 0, .slice none 0 0, .bool false, .int .i64 0] : List Value)[j]? = some u → w.cell? ⟨b3, j, none⟩ = some u)
    (h4 : w.cell? ⟨b4, 0, none⟩ = some (.slice (some ⟨b3, 0, none⟩) 2 2)) :
    UnitV w (.agg #[.int .i64 mod, .slice (some ⟨b1, 0, none⟩) 1 1, .slice (some ⟨b2, 0, none⟩) 1 1, .slice (some ⟨b4, 0, none⟩) 1 1]) (litU mod x) := by
  have hr : Sl rInstr w (.slice (some ⟨b3, 0, none⟩) 2 2) [fenceI, doneI] := by
    refine Sl.lit (l := [fenceI, doneI]) [[.int .i64 8, .int .i64 0, .int .i64 0, .slice none 0 0, .slice none 0 0, .bool false, .int .i64 0], [.int .i64 22, .int .i64 0, .int .i64 0, .slice none 0 0, .slice none 0 0, .bool false, .int .i64 0]] rfl (by show _ ≤ 1000; simp) fun k hk => ?_
    have hk : k = 0 ∨ k = 1 := by simp at hk; omega
    rcases hk with rfl | rfl
    · refine ⟨_, rfl, rfl, fun j u hj => ?_, rel_plain w 8 (by decide)⟩
      have hj2 : j < 7 := (List.getElem?_eq_some_iff.1 hj).1
      rw [show 0 * rInstr.size + j = j by omega]
      refine h3 j u ?_
      rw [← hj]
      have : j = 0 ∨ j = 1 ∨ j = 2 ∨ j = 3 ∨ j = 4 ∨ j = 5 ∨ j = 6 := by omega
      rcases this with rfl | rfl | rfl | rfl | rfl | rfl | rfl <;> rfl
    · refine ⟨_, rfl, rfl, fun j u hj => ?_, rel_plain w 22 (by decide)⟩
      have hj2 : j < 7 := (List.getElem?_eq_some_iff.1 hj).1
      rw [show 1 * rInstr.size + j = 7 + j by show 1 * 7 + j = 7 + j; omega]
      refine h3 (7 + j) u ?_
      rw [← hj]
      have : j = 0 ∨ j = 1 ∨ j = 2 ∨ j = 3 ∨ j = 4 ∨ j = 5 ∨ j = 6 := by omega
      rcases this with rfl | rfl | rfl | rfl | rfl | rfl | rfl <;> rfl
  refine ⟨_, _, _, rfl, ?_, ?_, ?_, wf_i64 hm⟩
  · refine Sl.lit (l := [x]) [[.int .i64 x]] rfl (by show _ ≤ 1000; simp) fun k hk => ?_
    obtain rfl : k = 0 := by simp at hk; omega
    exact ⟨_, rfl, rfl, fun j u hj => by obtain rfl : j = 0 := (by have := (List.getElem?_eq_some_iff.1 hj).1; simp at this; omega); simpa [← hj] using h1, rfl, hx⟩
  · refine Sl.lit (l := [1]) [[.int .i64 1]] rfl (by show _ ≤ 1000; simp) fun k hk => ?_
    obtain rfl : k = 0 := by simp at hk; omega
    exact ⟨_, rfl, rfl, fun j u hj => by obtain rfl : j = 0 := (by have := (List.getElem?_eq_some_iff.1 hj).1; simp at this; omega); simpa [← hj] using h2, rfl, (by decide : (Lit.int .i64 1).wf = true)⟩
  · refine Sl.lit (r := rInstrs) (l := [[fenceI, doneI]]) [[.slice (some ⟨b3, 0, none⟩) 2 2]] rfl (by show _ ≤ 1000; simp) fun k hk => ?_
    obtain rfl : k = 0 := by simp at hk; omega
    exact ⟨_, rfl, rfl, fun j u hj => by obtain rfl : j = 0 := (by have := (List.getElem?_eq_some_iff.1 hj).1; simp at this; omega); simpa [← hj] using h4, hr⟩

end Go.Proofs.Ytejkhpgahnncnaa
end

section
namespace Go.Proofs.Ytejkhpgahnncnaa
open Go.RowKit
set_option linter.unusedVariables false
set_option linter.unusedSimpArgs false

theorem info_of {P : Program} {t : TypeId} {z : Value} {s b : Nat} (h : (P.info? t).map (fun i => (i.zero, i.size, i.bytes)) = some (some z, s, b)) : ∃ i, P.info? t = some i ∧ i.zero = some z ∧ i.size = s ∧ i.bytes = b := by
  cases hi : P.info? t with
  | none => rw [hi] at h; cases h
  | some i => rw [hi] at h; simp at h; exact ⟨i, rfl, h⟩
theorem cells_one (W : World) (u : Value) (E : TypeId) : ∀ j x, [u][j]? = some x → (W.alloc (.cells #[u] E)).cell? ((⟨W.heap.size, 0, none⟩ : Addr).add j) = some x := by
  intro j x hj
  cases j with
  | zero => simp at hj; subst hj; simp [Addr.add]
  | succ j => simp at hj
theorem rightU_lit : rightU (litU 4 1) = true := by decide +kernel
/-- A block of the call's own and its first cell. -/
def Blk (W : World) (g : Nat) (u : Value) : Prop := ∃ ex E, W.heap[g]? = some (.cells (u :: ex).toArray E (0, 0))
theorem Blk.later {w w' : World} {g : Nat} {u : Value} (h : Blk w g u) (hb : Below w.heap.size w w') : Blk w' g u := by
  obtain ⟨ex, E, h⟩ := h
  exact ⟨ex, E, Fresh.later (o := .cells (u :: ex).toArray E (0, 0)) h hb⟩
theorem Blk.other {w : World} {g : Nat} {u : Value} (h : Blk w g u) {p : Addr} (hp : p.block ≠ g) (v : Value) : Blk (w.setCell p v) g u := by
  obtain ⟨ex, E, h⟩ := h
  exact ⟨ex, E, (Below.heap_setCell w p v g (Ne.symm hp)).trans h⟩
theorem Blk.var {w : World} {g : Nat} {u : Value} (h : Blk w g u) : VarAt w g 0 u := by
  obtain ⟨ex, E, h⟩ := h
  exact ⟨by simp [World.cell?, h], by simp [World.frozen?, h]⟩
theorem Blk.lt {w : World} {g : Nat} {u : Value} (h : Blk w g u) : g < w.heap.size := h.var.lt
/-- What an append to nil of one cell yields. -/
theorem app_one {B : Nat} {W0 W w' : World} {e : TypeId} {v' u : Value} (h : w'.ownsRow B e 1 v' 1 [u]) (hg : W.grownBy w' (Value.slice none 0 0).ownBlock) (hb : Below W0.heap.size W0 W) :
    ∃ g cap, v' = .slice (some ⟨g, 0, none⟩) 1 cap ∧ B ≤ g ∧ Blk w' g u ∧ (1 ≤ cap ∧ cap ≤ maxLen) ∧ Below W0.heap.size W0 w' ∧ g < w'.heap.size := by
  rcases owns_split h with ⟨_, h0⟩ | ⟨g, cap, ex, rfl, h1, h2, h3, h4, _⟩
  · cases h0
  · have hc : w'.cell? ⟨g, 0, none⟩ = some u := by simp [World.cell?, h2]
    exact ⟨g, cap, rfl, h1, ⟨ex, e, h2⟩, ⟨h3, h4⟩, hb.trans (Below.grown (Below.refl _ _) hg hb.size (by simp [Value.ownBlock])), World.block_lt_of_cell? _ _ hc⟩

/-- What the run knows of its memory. -/
structure J (w : World) (c1 c2 b1 o1 b2 o2 C : Nat) (W : World) (vp vr vm vb : Value) : Prop where
  l1 : b1 < w.heap.size
  l2 : b2 < w.heap.size
  y1 : W.cell? ⟨b1, o1, none⟩ = some (.int .i64 1)
  y2 : W.cell? ⟨b2, o2, none⟩ = some (.int .i64 1)
  z1 : W.cell? ⟨w.heap.size, 1, none⟩ = some (.slice (some ⟨b1, o1, none⟩) 1 c1)
  z2 : W.cell? ⟨w.heap.size, 2, none⟩ = some (.slice (some ⟨b2, o2, none⟩) 1 c2)
  r0 : VarAt W (w.heap.size + 1) 0 (.slice none 0 0)
  r1 : VarAt W (w.heap.size + 1) 1 (.slice none 0 0)
  r2 : VarAt W (w.heap.size + 1) 2 (.slice none 0 0)
  r3 : VarAt W (w.heap.size + 1) 3 (.slice none 0 0)
  q0 : VarAt W C 0 vp
  q1 : VarAt W C 1 vr
  q2 : VarAt W C 2 vm
  q3 : VarAt W C 3 vb
  hb : Below w.heap.size w W
  lt : w.heap.size + 1 < C
  sz : C < W.heap.size
section
variable {w : World} {c1 c2 b1 o1 b2 o2 C : Nat} {W W' : World} {vp vr vm vb : Value}
theorem J.later (h : J w c1 c2 b1 o1 b2 o2 C W vp vr vm vb) (hb : Below W.heap.size W W') : J w c1 c2 b1 o1 b2 o2 C W' vp vr vm vb :=
  ⟨h.l1, h.l2, cell_later hb h.y1, cell_later hb h.y2, cell_later hb h.z1, cell_later hb h.z2, h.r0.later hb, h.r1.later hb, h.r2.later hb, h.r3.later hb, h.q0.later hb, h.q1.later hb, h.q2.later hb, h.q3.later hb, h.hb.trans (hb.mono h.hb.size), h.lt, Nat.lt_of_lt_of_le h.sz hb.size⟩
theorem cell_other {W : World} {b o : Nat} {v : Value} (h : W.cell? ⟨b, o, none⟩ = some v) {p : Addr} (hp : p.block ≠ b ∨ p.off ≠ o) (u : Value) : (W.setCell p u).cell? ⟨b, o, none⟩ = some v := by
  rw [World.cell?_setCell_other]
  · exact h
  · rintro rfl
    simp at hp
theorem VarAt.otherK {W : World} {C j k : Nat} {v : Value} (h : VarAt W C k v) (hk : j ≠ k) (u : Value) : VarAt (W.setCell ⟨C, j, none⟩ u) C k v := h.other (.inr hk) u
theorem J.set (h : J w c1 c2 b1 o1 b2 o2 C W vp vr vm vb) {k : Nat} (u : Value) {vp' vr' vm' vb' : Value} (q0 : VarAt (W.setCell ⟨C, k, none⟩ u) C 0 vp') (q1 : VarAt (W.setCell ⟨C, k, none⟩ u) C 1 vr') (q2 : VarAt (W.setCell ⟨C, k, none⟩ u) C 2 vm') (q3 : VarAt (W.setCell ⟨C, k, none⟩ u) C 3 vb') :
    J w c1 c2 b1 o1 b2 o2 C (W.setCell ⟨C, k, none⟩ u) vp' vr' vm' vb' := by
  have l1 := h.l1; have l2 := h.l2; have lt := h.lt
  have hC : w.heap.size + 1 ≠ C := by omega
  exact ⟨h.l1, h.l2, cell_other h.y1 (.inl (show C ≠ b1 by omega)) u, cell_other h.y2 (.inl (show C ≠ b2 by omega)) u, cell_other h.z1 (.inl (show C ≠ _ by omega)) u, cell_other h.z2 (.inl (show C ≠ _ by omega)) u,
    h.r0.other (.inl (Ne.symm hC)) u, h.r1.other (.inl (Ne.symm hC)) u, h.r2.other (.inl (Ne.symm hC)) u, h.r3.other (.inl (Ne.symm hC)) u, q0, q1, q2, q3, h.hb.setCell (show w.heap.size ≤ C by omega) u, h.lt, by rw [World.size_setCell]; exact h.sz⟩
theorem J.set0 (h : J w c1 c2 b1 o1 b2 o2 C W vp vr vm vb) (u : Value) : J w c1 c2 b1 o1 b2 o2 C (W.setCell ⟨C, 0, none⟩ u) u vr vm vb := h.set u (h.q0.set u) (h.q1.otherK (by decide) u) (h.q2.otherK (by decide) u) (h.q3.otherK (by decide) u)
theorem J.set1 (h : J w c1 c2 b1 o1 b2 o2 C W vp vr vm vb) (u : Value) : J w c1 c2 b1 o1 b2 o2 C (W.setCell ⟨C, 1, none⟩ u) vp u vm vb := h.set u (h.q0.otherK (by decide) u) (h.q1.set u) (h.q2.otherK (by decide) u) (h.q3.otherK (by decide) u)
theorem J.set2 (h : J w c1 c2 b1 o1 b2 o2 C W vp vr vm vb) (u : Value) : J w c1 c2 b1 o1 b2 o2 C (W.setCell ⟨C, 2, none⟩ u) vp vr u vb := h.set u (h.q0.otherK (by decide) u) (h.q1.otherK (by decide) u) (h.q2.set u) (h.q3.otherK (by decide) u)
theorem J.set3 (h : J w c1 c2 b1 o1 b2 o2 C W vp vr vm vb) (u : Value) : J w c1 c2 b1 o1 b2 o2 C (W.setCell ⟨C, 3, none⟩ u) vp vr vm u := h.set u (h.q0.otherK (by decide) u) (h.q1.otherK (by decide) u) (h.q2.otherK (by decide) u) (h.q3.set u)
end
/-- What is there when the unit of one thread, of one register, begins. -/
structure Starts (w0 w : World) (v : Value) : Prop where
  is : ∃ bp cp br cr bi bm cm bb cb, v = .agg #[.slice (some ⟨bp, 0, none⟩) 1 cp, .slice (some ⟨br, 0, none⟩) 1 cr, .slice (some ⟨bm, 0, none⟩) 1 cm, .slice (some ⟨bb, 0, none⟩) 1 cb] ∧
    (Blk w bp (.int .i64 0) ∧ Blk w br (.slice (some ⟨bi, 0, none⟩) 1 1) ∧ Blk w bi (.int .i64 0) ∧ Blk w bm (.int .i64 1) ∧ Blk w bb (.slice none 0 0)) ∧
    ((1 ≤ cp ∧ cp ≤ maxLen) ∧ (1 ≤ cr ∧ cr ≤ maxLen) ∧ (1 ≤ cm ∧ cm ≤ maxLen) ∧ (1 ≤ cb ∧ cb ≤ maxLen)) ∧
    (w0.heap.size ≤ bp ∧ w0.heap.size ≤ br ∧ w0.heap.size ≤ bi ∧ w0.heap.size ≤ bm ∧ w0.heap.size ≤ bb) ∧ bi ≠ bp ∧ bi ≠ br ∧ bi ≠ bm ∧ bi ≠ bb

set_option maxRecDepth 100000 in
set_option maxHeartbeats 4000000 in
theorem start12_any (w : World) (v : Value) (hv : UnitV w v (litU 4 1)) : Calls Try.prog 13 #[v] w fun e w' => Below w.heap.size w w' ∧ ∃ u, e = .returned (.tuple #[u, .int .i64 0]) ∧ Starts w w' u := by
  have HV := Lib.hid hv
  obtain ⟨vi, vr, vc, rfl, s1, s2, s3, m1, m2⟩ := hv
  obtain ⟨a1, c1, rfl, h1⟩ : ∃ a cap, vi = .slice a 1 cap ∧ _ := ints_view s1
  obtain ⟨a2, c2, rfl, h2⟩ : ∃ a cap, vr = .slice a 1 cap ∧ _ := ints_view s2
  obtain ⟨a3, c3, rfl, h3⟩ : ∃ a cap, vc = .slice a 1 cap ∧ _ := slices_view s3
  obtain ⟨b1, o1, rfl, x1, _, _⟩ := h1 0 (by decide)
  obtain ⟨b2, o2, rfl, x2, _, _⟩ := h2 0 (by decide)
  replace x1 : w.cell? ⟨b1, o1, none⟩ = some (.int .i64 1) := x1
  replace x2 : w.cell? ⟨b2, o2, none⟩ = some (.int .i64 1) := x2
  clear h1 h2 h3 s1 s2 s3 m1 m2
  show Calls _ _ #[.agg #[.int .i64 4, .slice (some ⟨b1, o1, none⟩) 1 c1, .slice (some ⟨b2, o2, none⟩) 1 c2, .slice a3 1 c3]] _ _
  obtain ⟨W0, hW0⟩ : ∃ W, W = (w.alloc (.cells #[.int .i64 4, .slice (some ⟨b1, o1, none⟩) 1 c1, .slice (some ⟨b2, o2, none⟩) 1 c2, .slice a3 1 c3] 25)).alloc (.cells #[.slice none 0 0, .slice none 0 0, .slice none 0 0, .slice none 0 0] 31) := ⟨_, rfl⟩
  go_enter Try.func13, Try.ntmps13
  go_wp2_with fail
  refine (right07_any _ _ _ (HV.out.mono ?_)).mono ?_
  · exact ((Below.refl _ _).alloc (Nat.le_refl _) _).alloc (by simp) _
  rintro e w1 ⟨rfl, hb⟩
  rw [rightU_lit]
  have hb0 : Below w.heap.size w W0 := hW0 ▸ ((Below.refl _ _).alloc (Nat.le_refl _) _).alloc (by simp) _
  have hsz : W0.heap.size = w.heap.size + 1 + 1 := by rw [hW0]; simp
  rw [← hW0] at hb
  have z1 : W0.cell? ⟨w.heap.size, 1, none⟩ = some (.slice (some ⟨b1, o1, none⟩) 1 c1) := by rw [hW0]; exact cell_later ((Below.refl _ _).alloc (Nat.le_refl _) _) (new_cell w _ _ 1 _ rfl)
  have z2 : W0.cell? ⟨w.heap.size, 2, none⟩ = some (.slice (some ⟨b2, o2, none⟩) 1 c2) := by rw [hW0]; exact cell_later ((Below.refl _ _).alloc (Nat.le_refl _) _) (new_cell w _ _ 2 _ rfl)
  have r0 : ∀ k, k < 4 → VarAt W0 (w.heap.size + 1) k (.slice none 0 0) := by
    intro k hk
    have := VarAt.new (w.alloc (.cells #[.int .i64 4, .slice (some ⟨b1, o1, none⟩) 1 c1, .slice (some ⟨b2, o2, none⟩) 1 c2, .slice a3 1 c3] 25)) #[.slice none 0 0, .slice none 0 0, .slice none 0 0, .slice none 0 0] 31 k (.slice none 0 0) (by
      have : k = 0 ∨ k = 1 ∨ k = 2 ∨ k = 3 := by omega
      rcases this with rfl | rfl | rfl | rfl <;> rfl)
    rw [World.size_alloc] at this
    rw [hW0]; exact this
  have y1 := cell_later hb (cell_later hb0 x1); have y2 := cell_later hb (cell_later hb0 x2)
  replace z1 := cell_later hb z1; replace z2 := cell_later hb z2; replace r0 := fun k hk => (r0 k hk).later hb
  have HB := Lib.hid (hb0.trans (hb.mono hb0.size))
  have hz1 : w.heap.size + 1 + 1 ≤ w1.heap.size := by have := hb.size; omega
  have l1 := World.block_lt_of_cell? _ _ x1
  have l2 := World.block_lt_of_cell? _ _ x2
  clear hb hb0 hsz hW0 x1 x2
  clear W0
  go_wp2_with fail
  have hJ : J w c1 c2 b1 o1 b2 o2 w1.heap.size (w1.alloc (.cells #[.slice none 0 0, .slice none 0 0, .slice none 0 0, .slice none 0 0] 31)) (.slice none 0 0) (.slice none 0 0) (.slice none 0 0) (.slice none 0 0) := by
    have hb1 : Below w1.heap.size w1 (w1.alloc (.cells #[.slice none 0 0, .slice none 0 0, .slice none 0 0, .slice none 0 0] 31)) := (Below.refl _ _).alloc (Nat.le_refl _) _
    exact ⟨l1, l2, cell_later hb1 y1, cell_later hb1 y2, cell_later hb1 z1, cell_later hb1 z2, (r0 0 (by decide)).later hb1, (r0 1 (by decide)).later hb1, (r0 2 (by decide)).later hb1, (r0 3 (by decide)).later hb1, VarAt.new _ _ _ 0 _ rfl, VarAt.new _ _ _ 1 _ rfl, VarAt.new _ _ _ 2 _ rfl, VarAt.new _ _ _ 3 _ rfl, HB.out.trans (hb1.mono (by omega)), by omega, by simp⟩
  have HJ := Lib.hid hJ
  clear hJ y1 y2 z1 z2 r0 HB hz1 l1 l2
  generalize w1.alloc (.cells #[.slice none 0 0, .slice none 0 0, .slice none 0 0, .slice none 0 0] 31) = W1 at *
  generalize w1.heap.size = C at *
  clear w1
  obtain ⟨i0, hi, hi0, hi1, hi2⟩ : ∃ i, Try.prog.info? 3 = some i ∧ i.zero = some (.int .i64 0) ∧ i.size = 1 ∧ i.bytes = 8 := info_of (by kernel_rfl)
  obtain ⟨k0, ki, ki0, ki1, ki2⟩ : ∃ i, Try.prog.info? 22 = some i ∧ i.zero = some (.slice none 0 0) ∧ i.size = 1 ∧ i.bytes = 24 := info_of (by kernel_rfl)
  obtain ⟨j0, ji, ji0, ji1, ji2⟩ : ∃ i, Try.prog.info? 38 = some i ∧ i.zero = some (.slice none 0 0) ∧ i.size = 1 ∧ i.bytes = 24 := info_of (by kernel_rfl)
  refine wp_loop_rounds 2 ?_
  rw [rounds_succ]
  obtain ⟨_, _, y1, y2, z1, z2, _, _, _, _, ⟨q0, f0⟩, ⟨q1, f1⟩, _, _, _, _, _⟩ := HJ.out
  go_wp2_with (at_builtin; refine wpList_append_own _ rfl _ _ 22 rfl W1.heap.size 3 i0 _ 1 8 Try.underlying22 hi hi0 hi1 hi2 rfl (by decide) _ 0 [] rfl (World.ownsRow_nil _ _ _ _) ⟨W1.heap.size, 0, none⟩ 1 1 [.int .i64 0] rfl rfl ?a1 ?a2 ?a3 ?a4 ?a5 ?_)
  case a1 => exact cells_one _ _ _
  case a2 => intro u hu; simp at hu; subst hu; rfl
  case a3 => decide
  case a4 => decide
  case a5 => simp
  intro v1 w2 hown hg _
  obtain ⟨bp, cp, rfl, g1, pV, pc, pb, pl⟩ := app_one hown hg ((Below.refl W1.heap.size W1).alloc (Nat.le_refl _) _)
  have hJ2 := HJ.out.later pb
  have HJ2 := Lib.hid (hJ2.set0 (.slice (some ⟨bp, 0, none⟩) 1 cp))
  have hsz := HJ.out.sz
  have PV := Lib.hid (pV.other (p := ⟨C, 0, none⟩) (by show C ≠ bp; omega) (.slice (some ⟨bp, 0, none⟩) 1 cp))
  have PC := Lib.hid pc
  have PL : Hid (C < bp ∧ bp < w2.heap.size) := ⟨by omega, pl⟩
  obtain ⟨_, _, _, _, _, _, _, _, _, _, ⟨q0', f0'⟩, _, _, _, _, _, _⟩ := hJ2
  clear hown hg pb y1 y2 z1 z2 q1 f1 hsz pV pc pl q0 f0 g1
  go_upto_region 8 with (fail)
  have PL' : Hid (C < bp ∧ bp < (w2.setCell ⟨C, 0, none⟩ (.slice (some ⟨bp, 0, none⟩) 1 cp)).heap.size) := by rw [World.size_setCell]; exact PL.out
  clear PL q0' f0'
  generalize w2.setCell ⟨C, 0, none⟩ (.slice (some ⟨bp, 0, none⟩) 1 cp) = W2 at *
  have J2 := HJ2.out
  have f1 := Later.cell J2.q1.1
  have f2 := Later.cell J2.z2
  have f3 := Later.cell J2.y2
  clear J2
  refine wp_region_news 7 9 (by kernel_rfl) (by decide) (by kernel_rfl) ?_
  simp only [List.take_succ_cons, List.take_zero, List.drop_succ_cons, List.drop_zero]
  repeat (
    refine wpLater_step (fun K hK => ?_)
    go_simp
    first
    | (refine hK _ ?_; clear hK K)
    | (apply Exists.intro
       refine ⟨fun _ => ?_, hK _ ?_⟩
       · fail
       clear hK K))
  refine wpLater_nil ?_
  have hmk : ∀ w' : World, Sem.run Try.prog (Instr.makeSlice 22 (.int .i64 1) (.int .i64 1)) w' = .ok (.slice (some ⟨w'.heap.size, 0, none⟩) 1 1) (w'.alloc (.cells #[.int .i64 0] 3)) := by
    intro w'
    have := run_makeSlice w' 22 3 i0 (.int .i64 0) Try.underlying22 hi hi0 .i64 .i64 1 1 (by decide) (by decide) (by rw [hi1]; decide) (by rw [hi2]; decide) (by decide)
    rw [hi1, show madeCells (Value.int .i64 0).cells ((1 : Int).toNat * 1) = #[.int .i64 0] from by kernel_rfl] at this; exact this
  refine ⟨fun B => .slice (some ⟨B, 0, none⟩) 1 1, .cells #[.int .i64 0] 3, ⟨by rfl, fun w' hb => by go_simp⟩, fun B1 hB1 _ => ?_⟩
  refine ⟨fun B => .slice (some ⟨B, 0, none⟩) 1 1, .cells #[.slice (some ⟨B1, 0, none⟩) 1 1] 22, ⟨by rfl, fun w' hb => by go_simp⟩, fun B2 hB2 hlt => ?_⟩
  intro w4 hb4 hfr
  have hf1 : Fresh w4 B1 (.cells #[.int .i64 0] 3) := hfr (_, _) (List.mem_cons_of_mem _ List.mem_cons_self)
  have hf2 : Fresh w4 B2 (.cells #[.slice (some ⟨B1, 0, none⟩) 1 1] 22) := hfr (_, _) List.mem_cons_self
  have h12 : B1 < B2 := hlt (_, _) List.mem_cons_self
  clear f1 f2 f3 hfr hlt hB2
  have J4 := Lib.hid (HJ2.out.later hb4)
  have P4 := Lib.hid (PV.out.later hb4)
  have L4 : Hid (C < bp ∧ bp < B1) := ⟨PL'.out.1, Nat.lt_of_lt_of_le PL'.out.2 hB1⟩
  have V1 : Hid (Blk w4 B1 (.int .i64 0)) := ⟨[], _, hf1⟩
  have N2 := hf2.var.1
  have L5 := V1.out.lt
  clear hb4 HJ2 PV PL' hf1 hf2 hB1
  obtain ⟨_, _, _, _, _, _, _, _, _, _, _, ⟨q1, f1⟩, _, _, _, _, _⟩ := J4.out
  go_wp2_with (at_builtin; refine wpList_append_own _ rfl _ _ 28 rfl w4.heap.size 22 k0 _ 1 24 Try.underlying28 ki ki0 ki1 ki2 rfl (by decide) _ 0 [] rfl (World.ownsRow_nil _ _ _ _) ⟨B2, 0, none⟩ 1 1 [.slice (some ⟨B1, 0, none⟩) 1 1] rfl rfl ?a1 ?a2 ?a3 ?a4 ?a5 ?_)
  case a1 =>
    intro j u hj
    cases j with
    | zero => simp at hj; subst hj; simpa [Addr.add] using N2
    | succ j => simp at hj
  case a2 => intro u hu; simp at hu; subst hu; rfl
  case a3 => decide
  case a4 => decide
  case a5 => exact Nat.le_refl _
  intro v5 w5 hown hg _
  obtain ⟨br, cr, rfl, g1, rV, rc, rb, rl⟩ := app_one hown hg (Below.refl _ _)
  have hJ5 := J4.out.later rb
  have hsz := J4.out.sz
  have l4 := L4.out
  have HJ5 := Lib.hid (hJ5.set1 (.slice (some ⟨br, 0, none⟩) 1 cr))
  have P5 := Lib.hid ((P4.out.later rb).other (p := ⟨C, 1, none⟩) (by show C ≠ bp; omega) (.slice (some ⟨br, 0, none⟩) 1 cr))
  have R5 := Lib.hid (rV.other (p := ⟨C, 1, none⟩) (by show C ≠ br; omega) (.slice (some ⟨br, 0, none⟩) 1 cr))
  have V5 := Lib.hid ((V1.out.later rb).other (p := ⟨C, 1, none⟩) (by show C ≠ B1; omega) (.slice (some ⟨br, 0, none⟩) 1 cr))
  have RC := Lib.hid rc
  have L6 : Hid (C < bp ∧ bp < B1 ∧ B1 < br ∧ br < (w5.setCell ⟨C, 1, none⟩ (.slice (some ⟨br, 0, none⟩) 1 cr)).heap.size) := by rw [World.size_setCell]; exact ⟨l4.1, l4.2, by omega, rl⟩
  obtain ⟨_, _, _, _, _, _, _, _, _, _, _, ⟨q1', f1'⟩, _, _, _, _, _⟩ := hJ5
  clear hown hg rb hsz rV rc rl q1 f1 g1 l4 N2 L5 h12 J4 P4 L4 V1
  go_upto_region 9 with (fail)
  clear q1' f1'
  generalize w5.setCell ⟨C, 1, none⟩ (.slice (some ⟨br, 0, none⟩) 1 cr) = W5 at *
  obtain ⟨_, _, _, _, _, _, _, _, _, _, _, _, _, ⟨q3, f3⟩, _, _, _⟩ := HJ5.out
  go_wp2_with (at_builtin; refine wpList_append_own _ rfl _ _ 29 rfl W5.heap.size 38 j0 _ 1 24 Try.underlying29 ji ji0 ji1 ji2 rfl (by decide) _ 0 [] rfl (World.ownsRow_nil _ _ _ _) ⟨W5.heap.size, 0, none⟩ 1 1 [.slice none 0 0] rfl rfl ?a1 ?a2 ?a3 ?a4 ?a5 ?_)
  case a1 => exact cells_one _ _ _
  case a2 => intro u hu; simp at hu; subst hu; rfl
  case a3 => decide
  case a4 => decide
  case a5 => simp
  intro v6 w6 hown hg _
  obtain ⟨bb, cb, rfl, g1, bV, bc, bB, bl⟩ := app_one hown hg ((Below.refl W5.heap.size W5).alloc (Nat.le_refl _) _)
  have hJ6 := HJ5.out.later bB
  have hsz := HJ5.out.sz
  have l6 := L6.out
  have HJ6 := Lib.hid (hJ6.set3 (.slice (some ⟨bb, 0, none⟩) 1 cb))
  have P6 := Lib.hid ((P5.out.later bB).other (p := ⟨C, 3, none⟩) (by show C ≠ bp; omega) (.slice (some ⟨bb, 0, none⟩) 1 cb))
  have R6 := Lib.hid ((R5.out.later bB).other (p := ⟨C, 3, none⟩) (by show C ≠ br; omega) (.slice (some ⟨bb, 0, none⟩) 1 cb))
  have V6 := Lib.hid ((V5.out.later bB).other (p := ⟨C, 3, none⟩) (by show C ≠ B1; omega) (.slice (some ⟨bb, 0, none⟩) 1 cb))
  have U6 := Lib.hid (bV.other (p := ⟨C, 3, none⟩) (by show C ≠ bb; omega) (.slice (some ⟨bb, 0, none⟩) 1 cb))
  have BC := Lib.hid bc
  have L7 : Hid (C < bp ∧ bp < B1 ∧ B1 < br ∧ br < bb ∧ bb < (w6.setCell ⟨C, 3, none⟩ (.slice (some ⟨bb, 0, none⟩) 1 cb)).heap.size) := by rw [World.size_setCell]; exact ⟨l6.1, l6.2.1, l6.2.2.1, by omega, bl⟩
  obtain ⟨_, _, _, _, _, _, _, _, _, _, _, _, _, ⟨q3', f3'⟩, _, _, _⟩ := hJ6
  clear hown hg bB hsz bV bc bl q3 f3 g1 l6 HJ5 P5 R5 V5 L6
  go_upto_region 6 with (fail)
  clear q3' f3'
  generalize w6.setCell ⟨C, 3, none⟩ (.slice (some ⟨bb, 0, none⟩) 1 cb) = W6 at *
  obtain ⟨_, _, y1, y2, z1, z2, _, _, _, _, _, _, ⟨q2, f2⟩, _, _, _, _⟩ := HJ6.out
  go_wp2_with fail
  rw [rounds_succ]
  have ym : ∀ j u, ([.int .i64 1] : List Value)[j]? = some u → W6.cell? ((⟨b1, o1, none⟩ : Addr).add j) = some u := by
    intro j u hj
    cases j with
    | zero => simp at hj; subst hj; simpa [Addr.add] using y1
    | succ j => simp at hj
  have YM := Lib.hid ym
  clear ym
  go_wp2_with (at_builtin; refine wpList_append_own _ rfl _ _ 22 rfl W6.heap.size 3 i0 _ 1 8 Try.underlying22 hi hi0 hi1 hi2 rfl (by decide) _ 0 [] rfl (World.ownsRow_nil _ _ _ _) ⟨b1, o1, none⟩ 1 c1 [.int .i64 1] rfl rfl ?a1 ?a2 ?a3 ?a4 ?a5 ?_)
  case a1 => exact YM.out
  case a2 => intro u hu; simp at hu; subst hu; rfl
  case a3 => decide
  case a4 => decide
  case a5 => exact Nat.le_refl _
  intro v7 w7 hown hg _
  obtain ⟨bm, cm, rfl, g1, mV, mc, mB, ml⟩ := app_one hown hg (Below.refl W6.heap.size W6)
  have hJ7 := HJ6.out.later mB
  have hsz := HJ6.out.sz
  have l7 := L7.out
  have HJ7 := Lib.hid (hJ7.set2 (.slice (some ⟨bm, 0, none⟩) 1 cm))
  have P7 := Lib.hid ((P6.out.later mB).other (p := ⟨C, 2, none⟩) (by show C ≠ bp; omega) (.slice (some ⟨bm, 0, none⟩) 1 cm))
  have R7 := Lib.hid ((R6.out.later mB).other (p := ⟨C, 2, none⟩) (by show C ≠ br; omega) (.slice (some ⟨bm, 0, none⟩) 1 cm))
  have V7 := Lib.hid ((V6.out.later mB).other (p := ⟨C, 2, none⟩) (by show C ≠ B1; omega) (.slice (some ⟨bm, 0, none⟩) 1 cm))
  have U7 := Lib.hid ((U6.out.later mB).other (p := ⟨C, 2, none⟩) (by show C ≠ bb; omega) (.slice (some ⟨bm, 0, none⟩) 1 cm))
  have M7 := Lib.hid (mV.other (p := ⟨C, 2, none⟩) (by show C ≠ bm; omega) (.slice (some ⟨bm, 0, none⟩) 1 cm))
  have MC := Lib.hid mc
  have L8 : Hid (C < bp ∧ bp < B1 ∧ B1 < br ∧ br < bb ∧ bb < bm) := ⟨l7.1, l7.2.1, l7.2.2.1, l7.2.2.2.1, by omega⟩
  obtain ⟨_, _, _, _, _, _, _, _, _, _, _, _, ⟨q2', f2'⟩, _, _, _, _⟩ := hJ7
  clear hown hg mB hsz mV mc ml q2 f2 g1 l7 HJ6 P6 R6 V6 U6 L7 y1 y2 z1 z2
  go_upto_region 11 with (fail)
  clear q2' f2'
  generalize w7.setCell ⟨C, 2, none⟩ (.slice (some ⟨bm, 0, none⟩) 1 cm) = W7 at *
  obtain ⟨_, _, _, _, _, _, ⟨e0, e0'⟩, ⟨e1, e1'⟩, ⟨e2, e2'⟩, ⟨e3, e3'⟩, ⟨q0, f0⟩, ⟨q1, f1⟩, ⟨q2, f2⟩, ⟨q3, f3⟩, _, _, _⟩ := HJ7.out
  go_wp2_with fail
  have J8 := HJ7.out
  have hne : w.heap.size + 1 ≠ C := by have := J8.lt; omega
  have l8 := L8.out
  have r0 := ((((J8.r0.set (.slice (some ⟨bp, 0, none⟩) 1 cp)).otherK (j := 1) (by decide) (.slice (some ⟨br, 0, none⟩) 1 cr)).otherK (j := 2) (by decide) (.slice (some ⟨bm, 0, none⟩) 1 cm)).otherK (j := 3) (by decide) (.slice (some ⟨bb, 0, none⟩) 1 cb))
  have r1 := ((((J8.r1.otherK (j := 0) (by decide) (.slice (some ⟨bp, 0, none⟩) 1 cp)).set (.slice (some ⟨br, 0, none⟩) 1 cr)).otherK (j := 2) (by decide) (.slice (some ⟨bm, 0, none⟩) 1 cm)).otherK (j := 3) (by decide) (.slice (some ⟨bb, 0, none⟩) 1 cb))
  have r2 := ((((J8.r2.otherK (j := 0) (by decide) (.slice (some ⟨bp, 0, none⟩) 1 cp)).otherK (j := 1) (by decide) (.slice (some ⟨br, 0, none⟩) 1 cr)).set (.slice (some ⟨bm, 0, none⟩) 1 cm)).otherK (j := 3) (by decide) (.slice (some ⟨bb, 0, none⟩) 1 cb))
  have r3 := ((((J8.r3.otherK (j := 0) (by decide) (.slice (some ⟨bp, 0, none⟩) 1 cp)).otherK (j := 1) (by decide) (.slice (some ⟨br, 0, none⟩) 1 cr)).otherK (j := 2) (by decide) (.slice (some ⟨bm, 0, none⟩) 1 cm)).set (.slice (some ⟨bb, 0, none⟩) 1 cb))
  have ks : ∀ {b : Nat} {v : Value}, Blk W7 b v → C < b → Blk ((((W7.setCell ⟨w.heap.size + 1, 0, none⟩ (.slice (some ⟨bp, 0, none⟩) 1 cp)).setCell ⟨w.heap.size + 1, 1, none⟩ (.slice (some ⟨br, 0, none⟩) 1 cr)).setCell ⟨w.heap.size + 1, 2, none⟩ (.slice (some ⟨bm, 0, none⟩) 1 cm)).setCell ⟨w.heap.size + 1, 3, none⟩ (.slice (some ⟨bb, 0, none⟩) 1 cb)) b v := by
    intro b v h hb
    have hlt := J8.lt
    have : w.heap.size + 1 ≠ b := by omega
    exact (((h.other (p := ⟨_, 0, none⟩) this _).other (p := ⟨_, 1, none⟩) this _).other (p := ⟨_, 2, none⟩) this _).other (p := ⟨_, 3, none⟩) this _
  have PB : Hid (Below w.heap.size w ((((W7.setCell ⟨w.heap.size + 1, 0, none⟩ (.slice (some ⟨bp, 0, none⟩) 1 cp)).setCell ⟨w.heap.size + 1, 1, none⟩ (.slice (some ⟨br, 0, none⟩) 1 cr)).setCell ⟨w.heap.size + 1, 2, none⟩ (.slice (some ⟨bm, 0, none⟩) 1 cm)).setCell ⟨w.heap.size + 1, 3, none⟩ (.slice (some ⟨bb, 0, none⟩) 1 cb))) :=
    (((J8.hb.setCell (by show _ ≤ w.heap.size + 1; omega) _).setCell (by show _ ≤ w.heap.size + 1; omega) _).setCell (by show _ ≤ w.heap.size + 1; omega) _).setCell (by show _ ≤ w.heap.size + 1; omega) _
  have PS : Hid (Starts w ((((W7.setCell ⟨w.heap.size + 1, 0, none⟩ (.slice (some ⟨bp, 0, none⟩) 1 cp)).setCell ⟨w.heap.size + 1, 1, none⟩ (.slice (some ⟨br, 0, none⟩) 1 cr)).setCell ⟨w.heap.size + 1, 2, none⟩ (.slice (some ⟨bm, 0, none⟩) 1 cm)).setCell ⟨w.heap.size + 1, 3, none⟩ (.slice (some ⟨bb, 0, none⟩) 1 cb)) (.agg #[.slice (some ⟨bp, 0, none⟩) 1 cp, .slice (some ⟨br, 0, none⟩) 1 cr, .slice (some ⟨bm, 0, none⟩) 1 cm, .slice (some ⟨bb, 0, none⟩) 1 cb])) := by
    have hlt := J8.lt
    exact ⟨bp, cp, br, cr, B1, bm, cm, bb, cb, rfl, ⟨ks P7.out (by omega), ks R7.out (by omega), ks V7.out (by omega), ks M7.out (by omega), ks U7.out (by omega)⟩, ⟨PC.out, RC.out, MC.out, BC.out⟩, ⟨by omega, by omega, by omega, by omega, by omega⟩, by omega, by omega, by omega, by omega⟩
  clear J8 l8 e0 e0' e1 e1' e2 e2' e3 e3' q0 f0 q1 f1 q2 f2 q3 f3 ks
  generalize (((W7.setCell ⟨w.heap.size + 1, 0, none⟩ (.slice (some ⟨bp, 0, none⟩) 1 cp)).setCell ⟨w.heap.size + 1, 1, none⟩ (.slice (some ⟨br, 0, none⟩) 1 cr)).setCell ⟨w.heap.size + 1, 2, none⟩ (.slice (some ⟨bm, 0, none⟩) 1 cm)).setCell ⟨w.heap.size + 1, 3, none⟩ (.slice (some ⟨bb, 0, none⟩) 1 cb) = W8 at *
  obtain ⟨e0, e0'⟩ := r0; obtain ⟨e1, e1'⟩ := r1; obtain ⟨e2, e2'⟩ := r2; obtain ⟨e3, e3'⟩ := r3
  refine bodyPost_ret (by simp [results, Try.results13, go_sem, e0, e1, e2, e3]; try rfl) rfl ?_
  exact ⟨PB.out, _, rfl, PS.out⟩
end Go.Proofs.Ytejkhpgahnncnaa
end

section
namespace Go.Proofs.Ytejkhpgahnncnaa
open Go.RowKit
set_option linter.unusedVariables false
set_option linter.unusedSimpArgs false

theorem Fresh.new (w : World) (o : Obj) : Fresh (w.alloc o) w.heap.size o := heap_alloc_new w o
theorem Fresh.blk {w : World} {b : Nat} {u : Value} {ex : List Value} {E : TypeId} (h : Fresh w b (.cells (u :: ex).toArray E)) : Blk w b u := ⟨ex, E, h⟩
theorem Fresh.setCell {w : World} {b : Nat} {o : Obj} (h : Fresh w b o) {p : Addr} (hp : p.block ≠ b) (v : Value) : Fresh (w.setCell p v) b o := (Below.heap_setCell w p v b (Ne.symm hp)).trans h
/-- Five blocks laid one behind the other. -/
theorem lay5F (w : World) (o1 o2 o3 o4 o5 : Obj) {W : World} (hW : W = ((((w.alloc o1).alloc o2).alloc o3).alloc o4).alloc o5) :
    Below w.heap.size w W ∧ W.heap.size = w.heap.size + 5 ∧ Fresh W w.heap.size o1 ∧ Fresh W (w.heap.size + 1) o2 ∧ Fresh W (w.heap.size + 1 + 1) o3 ∧ Fresh W (w.heap.size + 1 + 1 + 1) o4 ∧ Fresh W (w.heap.size + 1 + 1 + 1 + 1) o5 := by
  subst hW
  have up : ∀ (w : World) (o : Obj), Below w.heap.size w (w.alloc o) := fun w o => (Below.refl _ _).alloc (Nat.le_refl _) _
  have n2 := World.size_alloc w o1
  have n3 := World.size_alloc (w.alloc o1) o2
  have n4 := World.size_alloc ((w.alloc o1).alloc o2) o3
  have n5 := World.size_alloc (((w.alloc o1).alloc o2).alloc o3) o4
  have n6 := World.size_alloc ((((w.alloc o1).alloc o2).alloc o3).alloc o4) o5
  have h1 := Fresh.new w o1
  have h2 := Fresh.new (w.alloc o1) o2
  have h3 := Fresh.new ((w.alloc o1).alloc o2) o3
  have h4 := Fresh.new (((w.alloc o1).alloc o2).alloc o3) o4
  have h5 := Fresh.new ((((w.alloc o1).alloc o2).alloc o3).alloc o4) o5
  rw [n2] at h2; rw [n3, n2] at h3; rw [n4, n3, n2] at h4; rw [n5, n4, n3, n2] at h5
  refine ⟨?_, by omega, (((h1.later (up _ _)).later (up _ _)).later (up _ _)).later (up _ _), ((h2.later (up _ _)).later (up _ _)).later (up _ _), (h3.later (up _ _)).later (up _ _), h4.later (up _ _), h5⟩
  refine Below.alloc (Below.alloc (Below.alloc (Below.alloc (Below.alloc (Below.refl _ _) (Nat.le_refl _) _) ?_ _) ?_ _) ?_ _) ?_ _
  all_goals omega
section
variable {S : Nat → Nat → Prop} {W : World}
theorem rep_1c {b cap : Nat} {u : Value} {a : AV} (hb : Blk W b u) (hS : S b 0) (hr : Rep S W [] [] a u) (h1 : u.oneCell' = true) (hc : 1 ≤ cap ∧ cap ≤ maxLen) : Rep S W [] [] (.sl 1 [[a]]) (.slice (some ⟨b, 0, none⟩) 1 cap) :=
  Rep.sl [] [] 1 [[a]] [[u]] (some ⟨b, 0, none⟩) cap (.cons _ _ _ _ (.cons _ _ _ _ _ _ hr (.nil _ _)) (by intro v hv; simp at hv; subst hv; exact h1) .nil) ⟨by simp, fun j vs t x h2 h3 => by
    cases j with
    | succ j => simp at h2
    | zero =>
      simp at h2; subst h2
      cases t with
      | succ t => simp at h3
      | zero => simp at h3; subst h3; exact ⟨b, 0, rfl, hS, hb.var.1⟩⟩ ⟨hc.1, hc.2, fun h => by cases h⟩
theorem rep_none {size : Nat} : Rep S W [] [] (.sl size []) (.slice none 0 0) :=
  Rep.sl [] [] size [] [] none 0 .nil ⟨by simp, fun j vs t x h2 h3 => by simp at h2⟩ ⟨Nat.le_refl _, by decide, fun _ => rfl⟩
def inV (op : Int) : List Value := [.int .i64 op, .int .i64 0, .int .i64 0, .slice none 0 0, .slice none 0 0, .bool false, .int .i64 0]
theorem rep_in {op : Int} (h : (Lit.int .i64 op).wf = true) : Reps S W [] [] (encIn ⟨op, 0, 0, [], [], false, 0⟩) (inV op) :=
  .cons _ _ _ _ _ _ (.int _ _ _ _ h) (.cons _ _ _ _ _ _ (.int _ _ _ _ wf0) (.cons _ _ _ _ _ _ (.int _ _ _ _ wf0) (.cons _ _ _ _ _ _ rep_none (.cons _ _ _ _ _ _ rep_none (.cons _ _ _ _ _ _ (.bool _ _ _) (.cons _ _ _ _ _ _ (.int _ _ _ _ wf0) (.nil _ _)))))))
theorem one_in (op : Int) : Ones (inV op) := by
  have h : (inV op).all Value.oneCell' = true := rfl
  intro v hv
  exact List.all_eq_true.1 h v hv
theorem rep_code {b : Nat} {E : TypeId} (hb : Fresh W b (.cells (inV 8 ++ inV 22).toArray E)) (hS : ∀ o, o < 14 → S b o) : Rep S W [] [] (aIns [fenceI, doneI]) (.slice (some ⟨b, 0, none⟩) 2 2) := by
  refine Rep.sl [] [] 7 [encIn fenceI, encIn doneI] [inV 8, inV 22] (some ⟨b, 0, none⟩) 2 (.cons _ _ _ _ (rep_in (by decide)) (one_in 8) (.cons _ _ _ _ (rep_in (by decide)) (one_in 22) .nil)) ⟨by intro vs h; simp at h; rcases h with rfl | rfl <;> rfl, fun j vs t x h2 h3 => ?_⟩ ⟨Nat.le_refl _, by decide, fun h => by cases h⟩
  have hc : ∀ (k : Nat) (x : Value), (inV 8 ++ inV 22)[k]? = some x → W.cell? ⟨b, k, none⟩ = some x := by
    intro k x hk
    unfold Fresh at hb
    simp only [World.cell?, hb]
    simpa using hk
  have ht : t < 7 := by
    have := (List.getElem?_eq_some_iff.1 h3).1
    have hv : vs ∈ [inV 8, inV 22] := List.mem_of_getElem? h2
    simp at hv
    rcases hv with rfl | rfl <;> exact this
  refine ⟨b, 0, rfl, hS _ ?_, hc _ _ ?_⟩
  · have := (List.getElem?_eq_some_iff.1 h2).1; simp at this; omega
  · match j, h2 with
    | 0, h2 =>
      simp at h2; subst h2
      rw [show 0 + 0 * 7 + t = t by omega, List.getElem?_append_left (by exact ht)]; exact h3
    | 1, h2 =>
      simp at h2; subst h2
      rw [List.getElem?_append_right (by show 7 ≤ _; omega)]
      rw [show 0 + 1 * 7 + t - (inV 8).length = t by show 0 + 1 * 7 + t - 7 = t; omega]; exact h3
    | j + 2, h2 => simp at h2
end

theorem Blk.put {w : World} {g : Nat} {u : Value} (h : Blk w g u) (v : Value) : Blk (w.setCell ⟨g, 0, none⟩ v) g v := by
  obtain ⟨ex, E, h⟩ := h
  refine ⟨ex, E, ?_⟩
  simp [World.setCell, Array.getElem?_modify, h]
theorem Blk.stays {w : World} {g : Nat} {u : Value} (h : Blk w g u) {o : Nat} (ho : o < 1) : ∃ v, stay w g o = some v ∧ v.2.2 = (0, 0) := by
  obtain ⟨ex, E, h⟩ := h
  obtain rfl : o = 0 := by omega
  exact ⟨(u, none, (0, 0)), stay_at h (by simp [World.cell?, h]), rfl⟩
theorem Fresh.stays {w : World} {g : Nat} {cs : Array Value} {E : TypeId} (h : Fresh w g (.cells cs E)) {o : Nat} (ho : o < cs.size) : ∃ v, stay w g o = some v ∧ v.2.2 = (0, 0) :=
  ⟨(cs[o], none, (0, 0)), stay_at h (by unfold Fresh at h; simp [World.cell?, h, ho]), rfl⟩
theorem reps_junk {S : Nat → Nat → Prop} {w : World} {hp : Hp} {φ : List Pl} : ∀ l : List Value, Reps S w hp φ (List.replicate l.length .junk) l
  | [] => .nil _ _
  | v :: l => .cons _ _ _ _ _ _ (.junk _ _ _) (reps_junk l)
theorem set_self {l : List Value} {i : Nat} {v : Value} (h : l[i]? = some v) : l.set i v = l := by
  obtain ⟨hi, rfl⟩ := List.getElem?_eq_some_iff.1 h
  exact List.set_getElem_self hi

theorem reps_at2 {S : Nat → Nat → Prop} {w : World} {hp : Hp} {φ : List Pl} {i j n : Nat} {a b : AV} {u v : Value} {L : List Value} (ha : Rep S w hp φ a u) (hb : Rep S w hp φ b v) (hi : L[i]? = some u) (hj : L[j]? = some v) (hn : L.length = n) : Reps S w hp φ (((List.replicate n AV.junk).set i a).set j b) L := by
  subst hn
  have := ((reps_junk (S := S) (w := w) (hp := hp) (φ := φ) L).set i ha).set j hb
  rwa [set_self hi, set_self hj] at this
/-- The rest of a function's code, by the interpreter. -/
theorem tail_by {P : Program} {H : Hints} {call : CallT} {f : FuncId} {fuel base : Nat} (hm : P.follows .mixedOrders = true) (hH : GoodH P H) (hc : SoundCall P H call) {c1 c2 : Code} (hd1 : drawsC H f c1 = true) (hd2 : drawsC H f c2 = true)
    {S : Nat → Nat → Prop} {W : World} {hp : Hp} {φ : List Pl} {tm : Tm} {A : Act} (hs : Sim P base S W hp φ) (ht : Reps S W hp φ tm A.tmps.toList) (hdef : A.defers = []) {fn : Func} (hres : fn.results = #[.tmp 0])
    (h : runC P H call f fuel hp.length c1 tm hp (fun e tm hp' => match e with
      | .normal => runC P H call f fuel hp.length c2 tm hp' (fun e tm hp' => match e with
        | .exit _ => none
        | _ => some (nth .junk tm 0))
      | _ => none) = some (AV.bool true))
    {R : Ending → World → Prop} (hR : ∀ w', Below base W w' → R (.returned (.bool true)) w')
    {K1 : Act → World → Prop} (hK : ∀ a w, c2.wp P (bodyPost P fn R) a w → K1 a w) : c1.wp P (Exit.then K1 (bodyPost P fn R)) A W := by
  refine runC_sound hm hH hc hs c1 hd1 (.refl _ _ _ _ _) hs ht h ?_
  intro e tm' hp' S' φ' a' w' g1 g2 g3 g4 g5
  cases e with
  | exit id => cases g1
  | ret => cases g1
  | normal =>
    refine hK _ _ (runC_sound hm hH hc hs c2 hd2 g4 g3 g2 g1 ?_)
    intro e tm'' hp'' S'' φ'' a'' w'' k1 k2 k3 k4 k5
    have fin : some (nth .junk tm'' 0) = some (AV.bool true) → a''.defers = [] ∧ ∃ v, (results fn a''.tmps).run P w'' = .ok v w'' ∧ R (.returned v) w'' := by
      intro hx
      have hr := ev_rep k2 (.tmp 0)
      have hx' : ev tm'' (.tmp 0) = AV.bool true := Option.some.inj hx
      rw [hx'] at hr
      refine ⟨k5.trans (g5.trans hdef), _, results_tmp hres _ _ _, ?_⟩
      have := hr.bool_inv
      rw [show a''.tmps.getD 0 undef = .bool true from this]
      exact hR _ k4.below
    cases e with
    | exit id => cases k1
    | normal => exact fin k1
    | ret => exact fin k1

set_option maxRecDepth 100000 in
set_option maxHeartbeats 4000000 in
theorem known12_any (w : World) : Calls Try.prog 20 #[] w (BoolBelow' true w) := by
  go_enter Try.func20, Try.ntmps20
  go_wp2_with fail
  obtain ⟨W5, hW5⟩ : ∃ W, W = ((((w.alloc (.cells #[.int .i64 1] 3)).alloc (.cells #[.int .i64 1] 3)).alloc (.cells (inV 8 ++ inV 22).toArray 55)).alloc (.cells #[.slice (some ⟨w.heap.size + 1 + 1, 0, none⟩) 2 2] 52)).alloc (.cells #[.int .i64 4, .slice (some ⟨w.heap.size, 0, none⟩) 1 1, .slice (some ⟨w.heap.size + 1, 0, none⟩) 1 1, .slice (some ⟨w.heap.size + 1 + 1 + 1, 0, none⟩) 1 1] 25) := ⟨_, rfl⟩
  refine (show ∀ {P f a w R}, w = W5 → Calls P f a W5 R → Calls P f a w R from fun h1 h2 => h1 ▸ h2) (hW5.symm ▸ rfl) ?_
  obtain ⟨LB, hsz, F1, F2, F3, F4, F5⟩ := lay5F w _ _ _ _ _ hW5
  refine (start12_any W5 _ (lit_unit (b1 := w.heap.size) (b2 := w.heap.size + 1) (b3 := w.heap.size + 1 + 1) (b4 := w.heap.size + 1 + 1 + 1) (by decide) (by decide) (Fresh.blk (ex := []) F1).var.1 (Fresh.blk (ex := []) F2).var.1 (fun j u hj => ?_) (Fresh.blk (ex := []) F4).var.1)).mono ?_
  · unfold Fresh at F3
    simp only [World.cell?, F3]
    simpa [inV] using hj
  rintro e w2 ⟨hb, u, rfl, hs⟩
  obtain ⟨bp, cp, br, cr, bi, bm, cm, bb, cb, rfl, ⟨Bp, Br, Bi, Bm, Bb⟩, ⟨k1, k2, k3, k4⟩, ⟨l1, l2, l3, l4, l5⟩, n1, n2, n3, n4⟩ := hs.is
  replace F1 := F1.later hb; replace F2 := F2.later hb; replace F3 := F3.later hb; replace F4 := F4.later hb; replace F5 := F5.later hb
  have HB := Lib.hid (LB.trans (hb.mono LB.size))
  have hz2 := hb.size
  clear hs hb LB hW5
  go_upto_region 3 with (fail)
  obtain ⟨W3, hW3⟩ : ∃ W, W = w2.alloc (.cells #[.slice (some ⟨bp, 0, none⟩) 1 cp, .slice (some ⟨br, 0, none⟩) 1 cr, .slice (some ⟨bm, 0, none⟩) 1 cm, .slice (some ⟨bb, 0, none⟩) 1 cb] 31) := ⟨_, rfl⟩
  have hb3 : Below w2.heap.size w2 W3 := hW3 ▸ (Below.refl _ _).alloc (Nat.le_refl _) _
  have F6 : Fresh W3 w2.heap.size (.cells #[.slice (some ⟨bp, 0, none⟩) 1 cp, .slice (some ⟨br, 0, none⟩) 1 cr, .slice (some ⟨bm, 0, none⟩) 1 cm, .slice (some ⟨bb, 0, none⟩) 1 cb] 31) := hW3 ▸ Fresh.new _ _
  rw [← hW3]
  have lp := Bp.lt; have lr := Br.lt; have li := Bi.lt; have lm := Bm.lt; have lb := Bb.lt
  replace F1 := F1.later hb3; replace F2 := F2.later hb3; replace F3 := F3.later hb3; replace F4 := F4.later hb3; replace F5 := F5.later hb3
  replace Bp := Bp.later hb3; replace Br := Br.later hb3; replace Bi := Bi.later hb3; replace Bm := Bm.later hb3; replace Bb := Bb.later hb3
  replace HB := Lib.hid (HB.out.trans (hb3.mono (by omega)))
  have e1 : W3.cell? ⟨w2.heap.size, 1, none⟩ = some (.slice (some ⟨br, 0, none⟩) 1 cr) := by unfold Fresh at F6; simp [World.cell?, F6]
  obtain ⟨e2, _⟩ := Br.var
  obtain ⟨e3, e3'⟩ := Bi.var
  have hz3 := hb3.size
  clear hW3 hb3
  go_upto_region 4 with (fail)
  have G1 := F1.setCell (p := ⟨bi, 0, none⟩) (by show bi ≠ _; omega) (.int .i64 3)
  have G2 := F2.setCell (p := ⟨bi, 0, none⟩) (by show bi ≠ _; omega) (.int .i64 3)
  have G3 := F3.setCell (p := ⟨bi, 0, none⟩) (by show bi ≠ _; omega) (.int .i64 3)
  have G4 := F4.setCell (p := ⟨bi, 0, none⟩) (by show bi ≠ _; omega) (.int .i64 3)
  have G5 := F5.setCell (p := ⟨bi, 0, none⟩) (by show bi ≠ _; omega) (.int .i64 3)
  have G6 := F6.setCell (p := ⟨bi, 0, none⟩) (by show bi ≠ _; omega) (.int .i64 3)
  have Cp := Bp.other (p := ⟨bi, 0, none⟩) n1 (.int .i64 3)
  have Cr := Br.other (p := ⟨bi, 0, none⟩) n2 (.int .i64 3)
  have Cm := Bm.other (p := ⟨bi, 0, none⟩) n3 (.int .i64 3)
  have Cb := Bb.other (p := ⟨bi, 0, none⟩) n4 (.int .i64 3)
  have Ci := Bi.put (.int .i64 3)
  have HB4 := HB.out.setCell (p := ⟨bi, 0, none⟩) (by show _ ≤ bi; omega) (.int .i64 3)
  have hz4 : w2.heap.size < (W3.setCell ⟨bi, 0, none⟩ (.int .i64 3)).heap.size := (by unfold Fresh at G6; exact (Array.getElem?_eq_some_iff.1 G6).1)
  clear F1 F2 F3 F4 F5 F6 Bp Br Bi Bm Bb HB e1 e2 e3 e3'
  generalize W3.setCell ⟨bi, 0, none⟩ (.int .i64 3) = W4 at *
  clear hz3
  have hs : Sim Try.prog w.heap.size (fun b o => ((b = w.heap.size ∨ b = w.heap.size + 1 ∨ b = w.heap.size + 1 + 1 + 1 ∨ b = bp ∨ b = br ∨ b = bi ∨ b = bm ∨ b = bb) ∧ o < 1) ∨ (b = w.heap.size + 1 + 1 ∧ o < 14)) W4 [.var 25 (cellsU (litU 4 1)), .var 31 (cellsC ⟨[0], [[3]], [1], [[]]⟩)] [.blk (w.heap.size + 1 + 1 + 1 + 1), .blk w2.heap.size] := by
    refine ⟨rfl, HB4.size, ?_, ?_, ?_⟩
    · rintro b o (⟨h, ho⟩ | ⟨rfl, ho⟩)
      · have : ∃ v, stay W4 b o = some v ∧ v.2.2 = (0, 0) := by
          rcases h with rfl | rfl | rfl | rfl | rfl | rfl | rfl | rfl
          · exact G1.stays ho
          · exact G2.stays ho
          · exact G4.stays ho
          · exact Cp.stays ho
          · exact Cr.stays ho
          · exact Ci.stays ho
          · exact Cm.stays ho
          · exact Cb.stays ho
        obtain ⟨v, h1, h2⟩ := this
        exact ⟨v, h1, fun _ => h2⟩
      · obtain ⟨v, h1, h2⟩ := G3.stays (o := o) (by simpa [inV] using ho)
        exact ⟨v, h1, fun _ => h2⟩
    · intro id o ho
      match id, ho with
      | 0, ho =>
        cases ho
        refine ⟨_, _, _, rfl, by omega, G5, .cons _ _ _ _ _ _ (.int _ _ _ _ (by decide)) (.cons _ _ _ _ _ _ ?_ (.cons _ _ _ _ _ _ ?_ (.cons _ _ _ _ _ _ ?_ (.nil _ _)))), (by intro v hv; simp at hv; rcases hv with rfl | rfl | rfl | rfl <;> rfl), fun o hS => by omega⟩
        · exact (rep_1c (Fresh.blk (ex := []) G1) (by omega) (.int _ _ _ _ (by decide)) rfl ⟨Nat.le_refl _, by decide⟩).lift
        · exact (rep_1c (Fresh.blk (ex := []) G2) (by omega) (.int _ _ _ _ (by decide)) rfl ⟨Nat.le_refl _, by decide⟩).lift
        · exact (rep_1c (Fresh.blk (ex := []) G4) (by omega) (rep_code G3 (fun o ho => .inr ⟨rfl, ho⟩)) rfl ⟨Nat.le_refl _, by decide⟩).lift
      | 1, ho =>
        cases ho
        refine ⟨_, _, _, rfl, by omega, G6, .cons _ _ _ _ _ _ ?_ (.cons _ _ _ _ _ _ ?_ (.cons _ _ _ _ _ _ ?_ (.cons _ _ _ _ _ _ ?_ (.nil _ _)))), (by intro v hv; simp at hv; rcases hv with rfl | rfl | rfl | rfl <;> rfl), fun o hS => by omega⟩
        · exact (rep_1c Cp (by omega) (.int _ _ _ _ (by decide)) rfl k1).lift
        · exact (rep_1c Cr (by omega) (rep_1c Ci (by omega) (.int _ _ _ _ (by decide)) rfl ⟨Nat.le_refl _, by decide⟩) rfl k2).lift
        · exact (rep_1c Cm (by omega) (.int _ _ _ _ (by decide)) rfl k3).lift
        · exact (rep_1c Cb (by omega) rep_none rfl k4).lift
      | n + 2, ho => simp at ho
    · intro i j b hi hj
      match i, j with
      | 0, 0 => rfl
      | 1, 1 => rfl
      | 0, 1 => simp [blockAt] at hi hj; omega
      | 1, 0 => simp [blockAt] at hi hj; omega
      | n + 2, _ => simp [blockAt] at hi
      | 0, n + 2 => simp [blockAt] at hj
      | 1, n + 2 => simp [blockAt] at hj
  refine tail_by (call := cN XK 300) (f := 20) (fuel := 300) (tm := ((List.replicate 82 AV.junk).set 1 (.ptr 0 0)).set 2 (.ptr 1 0)) mixed goodHH (cN_sound extK_sound 300) (by kernel_rfl) (by kernel_rfl) hs ?_ rfl rfl (by kernel_rfl) (fun w' hb => ⟨rfl, HB4.trans hb⟩) (by assumption)
  exact reps_at2 (.ptr _ _ 0 0 _ rfl) (.ptr _ _ 1 0 _ rfl) rfl rfl rfl
end Go.Proofs.Ytejkhpgahnncnaa
end

section
namespace Go.Proofs.Ytejkhpgahnncnaa
set_option linter.unusedVariables false
set_option maxRecDepth 100000
noncomputable def extT : ExtT := [
  (33, tellK aU rightU),
  (35, tellK aU rightU),
  (10, tellK aU lightU),
  (11, trueK),
  (20, trueK),
  (1000000, fun _ => none)]
noncomputable def XT : Ext := extOf extT
theorem extT_sound : ∀ p ∈ extT, SoundK Try.prog p.1 p.2 := by
  unfold extT
  refine List.forall_mem_cons.2 ⟨sound_tell dec_unitV (fun x v w h => (lowRight_any x v w h).mono fun _ _ h => h), ?_⟩
  refine List.forall_mem_cons.2 ⟨sound_tell dec_unitV (fun x v w h => (right07_any x v w h).mono fun _ _ h => h), ?_⟩
  refine List.forall_mem_cons.2 ⟨sound_tell dec_unitV (fun x v w h => (light07_any x v w h).mono fun _ _ h => h), ?_⟩
  refine List.forall_mem_cons.2 ⟨sound_true known09_any, ?_⟩
  refine List.forall_mem_cons.2 ⟨sound_true known12_any, ?_⟩
  exact List.forall_mem_cons.2 ⟨sound_none, fun _ h => by cases h⟩
theorem XT_sound : SoundExt Try.prog XT := sound_extOf extT_sound
theorem callN_ext {P : Program} {H : Hints} {X : Ext} {n : Nat} {f : FuncId} {g : List AV → Option AV} {args : List AV} {v : AV} (hx : X f = some g) (h : g args = some v) : callN P H X (n + 1) f args [] = some (v, []) := by
  simp only [callN, callS, hx, h]

def m_lower_Right : Nat → UnitS → Option Bool
  | 0, _ => none
  | _+1, u => some (rightU u)
theorem ok_lower_Right {n : Nat} ⦃u : UnitS⦄ ⦃r : Bool⦄ : m_lower_Right n u = some r → callN Try.prog HH XT n 33 [AV.agg [AV.int .i64 (u.mod), AV.sl 1 (List.map encI (u.init)), AV.sl 1 (List.map encI (u.regs)), AV.sl 1 (List.map encThr (u.code))]] [] = some (AV.bool (r), []) := by
  cases n with
  | zero => intro hm; cases hm
  | succ n => intro hm; obtain rfl := Option.some.inj hm; exact callN_ext rfl (tellK_eq (enc := aU) aU_inj u)
def m_ref07_Right : Nat → UnitS → Option Bool
  | 0, _ => none
  | _+1, u => some (rightU u)
theorem ok_ref07_Right {n : Nat} ⦃u : UnitS⦄ ⦃r : Bool⦄ : m_ref07_Right n u = some r → callN Try.prog HH XT n 35 [AV.agg [AV.int .i64 (u.mod), AV.sl 1 (List.map encI (u.init)), AV.sl 1 (List.map encI (u.regs)), AV.sl 1 (List.map encThr (u.code))]] [] = some (AV.bool (r), []) := by
  cases n with
  | zero => intro hm; cases hm
  | succ n => intro hm; obtain rfl := Option.some.inj hm; exact callN_ext rfl (tellK_eq (enc := aU) aU_inj u)
def m_ref07_Light : Nat → UnitS → Option Bool
  | 0, _ => none
  | _+1, u => some (lightU u)
theorem ok_ref07_Light {n : Nat} ⦃u : UnitS⦄ ⦃r : Bool⦄ : m_ref07_Light n u = some r → callN Try.prog HH XT n 10 [AV.agg [AV.int .i64 (u.mod), AV.sl 1 (List.map encI (u.init)), AV.sl 1 (List.map encI (u.regs)), AV.sl 1 (List.map encThr (u.code))]] [] = some (AV.bool (r), []) := by
  cases n with
  | zero => intro hm; cases hm
  | succ n => intro hm; obtain rfl := Option.some.inj hm; exact callN_ext rfl (tellK_eq (enc := aU) aU_inj u)
def m_law12_known : Nat → Option Bool
  | 0 => none
  | _+1 => some true
theorem ok_law12_known {n : Nat} ⦃r : Bool⦄ : m_law12_known n = some r → callN Try.prog HH XT n 20 [] [] = some (AV.bool (r), []) := by
  cases n with
  | zero => intro hm; cases hm
  | succ n => intro hm; obtain rfl := Option.some.inj hm; exact callN_ext rfl rfl
end Go.Proofs.Ytejkhpgahnncnaa
end

