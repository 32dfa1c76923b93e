/- Parts of the proofs: what they lean on. Conditions: none. -/
import Derived.StillTail
import Derived.OneCell
import Derived.Test.YtejkhpgahnncnaaCsmS12
section
namespace Go.Proofs.Ytejkhpgahnncnaa
open Go.RowKit
set_option linter.unusedVariables false
set_option linter.unusedSimpArgs false

section
variable {P : Program} {ops : Array Oper} {md : Region.Mode} {w0 : World}

abbrev Spec := Nat → Option (Sem Next → Value → World → Prop)
def Steady (Φ : World → Prop) : Prop := ∀ w w' : World, Below w.heap.size w w' → Φ w → Φ w'
def SteadyS (Ψ : Spec) : Prop := ∀ i ψ, Ψ i = some ψ → ∀ x v, Steady (ψ x v)
theorem Steady.and {Φ Χ : World → Prop} (h : Steady Φ) (k : Steady Χ) : Steady fun w => Φ w ∧ Χ w := fun w w' hb hw => ⟨h w w' hb hw.1, k w w' hb hw.2⟩
/-- The block to which a value points. -/
def blkOf : Value → Option Nat
  | .slice (some ad) _ _ => some ad.block
  | .pointer (some ad) => some ad.block
  | _ => none
/-- What is known, and which blocks are new. -/
abbrev Fx := (World → Prop) × (Nat → Prop)
def Fx.upd (b : Fx) (φ : Value → World → Prop) (v : Value) : Fx := (fun w => b.1 w ∧ φ v w, fun k => b.2 k ∨ blkOf v = some k)
def Fx.free (b : Fx) (v : Value) : Prop := ∀ k, blkOf v = some k → ¬ b.2 k
def Fx.fin (b : Fx) : Prop := ∃ N, ∀ k, b.2 k → k < N
theorem Fx.fin_upd {b : Fx} (h : b.fin) (φ : Value → World → Prop) (v : Value) : (b.upd φ v).fin := by
  obtain ⟨N, h⟩ := h
  cases hv : blkOf v with
  | none => exact ⟨N, fun k hk => hk.elim (h k) fun e => by rw [hv] at e; cases e⟩
  | some x => exact ⟨N + x + 1, fun k hk => hk.elim (fun hk => by have := h k hk; omega) fun e => by rw [hv] at e; have := Option.some.inj e; omega⟩
theorem later_large (w0 : World) : ∀ N : Nat, ∃ s : Later w0, N ≤ s.world.heap.size
  | 0 => ⟨Later.self w0, Nat.zero_le _⟩
  | N + 1 => by
    obtain ⟨s, hs⟩ := later_large w0 N
    exact ⟨⟨s.world.alloc (.cells #[] 0), s.below.alloc s.below.size _⟩, by rw [World.size_alloc]; omega⟩
theorem Fx.comm (b : Fx) (φ χ : Value → World → Prop) (v u : Value) : (b.upd φ v).upd χ u = (b.upd χ u).upd φ v := by
  unfold Fx.upd
  congr 1
  · funext w; exact propext and_right_comm
  · funext k; exact propext or_right_comm
theorem Fx.free_comm {b : Fx} {φ χ : Value → World → Prop} {v u : Value} (h1 : b.free u) (h2 : (b.upd χ u).free v) : b.free v ∧ (b.upd φ v).free u :=
  ⟨fun k hk hb => h2 k hk (.inl hb), fun k hk hb => hb.elim (h1 k hk) fun hv => h2 k hv (.inr hk)⟩
/-- An operation's run: what it hands back is so. -/
def RunsTo (P : Program) (w : World) (Φ : Value → World → Prop) : Result Next → Prop
  | .ok (.value u) w' => Below w.heap.size w w' ∧ Φ u w' ∧ ∀ k, blkOf u = some k → w.heap.size ≤ k ∧ k < w'.heap.size
  | .ok (.enter f args) w' => w' = w ∧ Calls P f args w fun e w'' => ∃ v, e = .returned v ∧ Below w.heap.size w w'' ∧ Φ v w'' ∧ ∀ k, blkOf v = some k → w.heap.size ≤ k ∧ k < w''.heap.size
  | _ => False

def SpecAt (P : Program) (ops : Array Oper) (w0 : World) (o : Oper) (ψ : Sem Next → Value → World → Prop) (a : Act) : Prop :=
  Region.wanted o (yielded ops a.tmps) = true ∧ ∀ s : Later w0, RunsTo P s.world (ψ (execOp a.eval o)) ((execOp a.eval o).run P s.world)
theorem SpecAt.of_same {o : Oper} {ψ : Sem Next → Value → World → Prop} {a a' : Act} (hy : SpecAt P ops w0 o ψ a) (he : execOp a'.eval o = execOp a.eval o)
    (hw : Region.wanted o (yielded ops a'.tmps) = Region.wanted o (yielded ops a.tmps)) : SpecAt P ops w0 o ψ a' := by
  unfold SpecAt at *
  rw [hw, he]; exact hy

def gOp (P : Program) (ops : Array Oper) (w0 : World) (Ψ : Spec) (i : Nat) (b : Fx) (K : Fx → Act → Prop) (a : Act) : Prop :=
  match ops[i]? with
  | none => K b a
  | some o => match Ψ i with
    | none => ∃ v, LYields P ops w0 o v a ∧ K b (a.put o.dst v)
    | some ψ => SpecAt P ops w0 o ψ a ∧ ∀ v, (∃ w, ψ (execOp a.eval o) v w) → b.free v → K (b.upd (ψ (execOp a.eval o)) v) (a.put o.dst v)
variable {Ψ : Spec}

theorem gOp_mono {i : Nat} {b : Fx} {a : Act} {K K' : Fx → Act → Prop} (hfin : b.fin) (h : ∀ b a, b.fin → K b a → K' b a) (hh : gOp P ops w0 Ψ i b K a) : gOp P ops w0 Ψ i b K' a := by
  unfold gOp at *
  split
  · rename_i ho; simp only [ho] at hh; exact h _ _ hfin hh
  · rename_i o ho
    simp only [ho] at hh
    split
    · rename_i hs
      simp only [hs] at hh
      obtain ⟨v, hy, hk⟩ := hh
      exact ⟨v, hy, h _ _ hfin hk⟩
    · rename_i ψ hs
      simp only [hs] at hh
      exact ⟨hh.1, fun v hv hf => h _ _ (hfin.elim fun N hN => Fx.fin_upd ⟨N, hN⟩ _ _) (hh.2 v hv hf)⟩

theorem gOp_put {j : Nat} {oi oj : Oper} {v : Value} (hj : ops[j]? = some oj) (hap : oi.apart ops oj = true)
    (hsi : ∀ cs b, oi.op ≠ .select cs b) (hsj : ∀ cs b, oj.op ≠ .select cs b) {b : Fx} {K : Fx → Act → Prop} {a : Act}
    (hy : LYields P ops w0 oi v a) (h : gOp P ops w0 Ψ j b K (a.put oi.dst v)) :
    gOp P ops w0 Ψ j b (fun b' a' => LYields P ops w0 oi v a' ∧ K b' (a'.put oi.dst v)) a := by
  obtain ⟨h1, h2, h3⟩ := Oper.apart_spec hap
  have keep : ∀ (a : Act), LYields P ops w0 oi v a → ∀ u, LYields P ops w0 oi v (a.put oj.dst u) := fun a hy u =>
    hy.of_same (execOp_put oi hsi a oj.dst u h3) (wanted_put oi a oj.dst u h3)
  have he : execOp (a.put oi.dst v).eval oj = execOp a.eval oj := execOp_put oj hsj a oi.dst v h1
  unfold gOp at *
  simp only [hj] at *
  split
  · rename_i hs
    simp only [hs] at h
    obtain ⟨u, hu, hn⟩ := h
    exact ⟨u, hu.of_same he.symm (wanted_put oj a oi.dst v h1).symm, keep a hy u, by rw [← Act.put_comm a v u h2]; exact hn⟩
  · rename_i ψ hs
    simp only [hs] at h
    refine ⟨h.1.of_same he.symm (wanted_put oj a oi.dst v h1).symm, fun u hu hf => ⟨keep a hy u, ?_⟩⟩
    rw [← Act.put_comm a v u h2, ← he]; exact h.2 u (by rw [he]; exact hu) hf

theorem SpecAt.inh {o : Oper} {ψ : Sem Next → Value → World → Prop} {a : Act} (h : SpecAt P ops w0 o ψ a) {b : Fx} (hb : b.fin) : ∃ v, (∃ w, ψ (execOp a.eval o) v w) ∧ b.free v := by
  obtain ⟨N, hN⟩ := hb
  obtain ⟨s, hs⟩ := later_large w0 N
  have h3 := h.2 s
  generalize (execOp a.eval o).run P s.world = r at h3
  cases r with
  | ok n w' =>
    cases n <;> simp only [RunsTo] at h3
    case value u => exact ⟨_, ⟨_, h3.2.1⟩, fun k hk hbk => by have := hN k hbk; have := (h3.2.2 k hk).1; omega⟩
    case enter f args =>
      obtain ⟨e, w2, fr, ⟨v, _, _, hv, hk'⟩, _⟩ := h3.2 []
      exact ⟨v, ⟨w2, hv⟩, fun k hk hbk => by have := hN k hbk; have := (hk' k hk).1; omega⟩
  | halt x w' => simp only [RunsTo] at h3
theorem gOp_putS {j : Nat} {oi oj : Oper} {ψi ψj : Sem Next → Value → World → Prop} (hj : ops[j]? = some oj) (hψj : Ψ j = some ψj) (hap : oi.apart ops oj = true)
    (hsi : ∀ cs b, oi.op ≠ .select cs b) (hsj : ∀ cs b, oj.op ≠ .select cs b) {b : Fx} {K : Fx → Act → Prop} {a : Act}
    (hfin : b.fin) (hy : SpecAt P ops w0 oi ψi a) (h : ∀ v, (∃ w, ψi (execOp a.eval oi) v w) → b.free v → gOp P ops w0 Ψ j (b.upd (ψi (execOp a.eval oi)) v) K (a.put oi.dst v)) :
    gOp P ops w0 Ψ j b (fun b' a' => SpecAt P ops w0 oi ψi a' ∧ ∀ v, (∃ w, ψi (execOp a'.eval oi) v w) → b'.free v → K (b'.upd (ψi (execOp a'.eval oi)) v) (a'.put oi.dst v)) a := by
  obtain ⟨h1, h2, h3⟩ := Oper.apart_spec hap
  have he : ∀ v, execOp (a.put oi.dst v).eval oj = execOp a.eval oj := fun v => execOp_put oj hsj a oi.dst v h1
  have hi : ∀ u, execOp (a.put oj.dst u).eval oi = execOp a.eval oi := fun u => execOp_put oi hsi a oj.dst u h3
  unfold gOp at *
  simp only [hj, hψj] at *
  obtain ⟨v0, hv0, hf0⟩ := hy.inh hfin
  refine ⟨(h v0 hv0 hf0).1.of_same (he v0).symm (wanted_put oj a oi.dst v0 h1).symm, fun u hu hfu => ⟨hy.of_same (hi u) (wanted_put oi a oj.dst u h3), fun v hv hfv => ?_⟩⟩
  rw [hi] at hv
  obtain ⟨g1, g2⟩ := Fx.free_comm (φ := ψi (execOp a.eval oi)) hfu hfv
  have := (h v hv g1).2 u (by rw [he]; exact hu) g2
  rw [he, Act.put_comm a v u h2, Fx.comm] at this
  rw [hi]
  exact this

def gAny (P : Program) (md : Region.Mode) (ops : Array Oper) (w0 : World) (Ψ : Spec) (n : Nat) (L : Array Bool → Fx → Act → Prop) : Nat → Array Bool → Fx → Act → Prop
  | 0, listed, b, a => L listed b a
  | f + 1, listed, b, a =>
    Region.ready md ops listed ≠ [] ∧ ∀ i ∈ Region.ready md ops listed, i < n ∧ gOp P ops w0 Ψ i b (fun b' a' => gAny P md ops w0 Ψ n L f (listed.setIfInBounds i true) b' a') a

theorem wpOp_of_gOp (hΨ : SteadyS Ψ) {i : Nat} {b : Fx} {a : Act} {K : Fx → Act → Prop} {K' : Act → World → Prop} {Q' : Exit → Act → World → Prop} {w : World} (hw : Below w0.heap.size w0 w) (hb : b.1 w) (hs : Steady b.1) (hk0 : ∀ k, b.2 k → k < w.heap.size)
    (h : ∀ (b' : Fx) a' w', Below w0.heap.size w0 w' → b'.1 w' → Steady b'.1 → (∀ k, b'.2 k → k < w'.heap.size) → K b' a' → K' a' w') (hh : gOp P ops w0 Ψ i b K a) : wpOp P ops Q' i K' a w := by
  unfold gOp at hh
  unfold wpOp
  split
  · rename_i ho; simp only [ho] at hh; exact h _ _ _ hw hb hs hk0 hh
  · rename_i oi ho
    simp only [ho] at hh
    split at hh
    · obtain ⟨v, hy, hk⟩ := hh
      rcases hy with ⟨hwt, hq⟩ | ⟨hwt, rfl⟩
      · rw [if_pos hwt]
        left
        have h3 := hq ⟨w, hw⟩
        unfold Oper.quietAt at h3
        unfold Oper.wp
        dsimp only at h3
        generalize (execOp a.eval oi).run P w = r at *
        cases r with
        | ok n w' =>
          cases n <;> simp only [Oper.quietUpon] at h3 <;> simp only [Oper.upon]
          case value u =>
            obtain ⟨e1, e2⟩ := h3
            rw [e1, e2]
            exact h _ _ _ hw hb hs hk0 hk
          case skip =>
            obtain ⟨e1, e2⟩ := h3
            rw [e1, ← e2]
            exact h _ _ _ hw hb hs hk0 hk
          case enter f args =>
            obtain ⟨e1, hc⟩ := h3
            rw [e1]
            exact hc.mono fun e w'' ⟨he, hw''⟩ => by
              subst he
              exact h _ _ _ (hw.trans (hw''.mono hw.size)) (hs _ _ hw'' hb) hs (fun k hk => Nat.lt_of_lt_of_le (hk0 k hk) hw''.size) hk
        | halt x w' => simp only [Oper.quietUpon] at h3
      · rw [if_neg (by rw [hwt]; exact Bool.false_ne_true)]
        exact h _ _ _ hw hb hs hk0 hk
    · rename_i ψ hψ
      obtain ⟨⟨hwt, hrun⟩, hk⟩ := hh
      rw [if_pos hwt]
      left
      have h3 := hrun ⟨w, hw⟩
      have hst : ∀ v, Steady (b.upd (ψ (execOp a.eval oi)) v).1 := fun v => hs.and (hΨ i ψ hψ _ v)
      unfold Oper.wp
      dsimp only at h3
      have h4 : ∀ v w', Below w.heap.size w w' → ψ (execOp a.eval oi) v w' → (∀ k, blkOf v = some k → w.heap.size ≤ k ∧ k < w'.heap.size) → K' (a.put oi.dst v) w' := fun v w' hbw hv hkk =>
        h _ _ _ (hw.trans (hbw.mono hw.size)) (show (b.upd (ψ (execOp a.eval oi)) v).1 w' from ⟨hs _ _ hbw hb, hv⟩) (hst v) (fun k hk => hk.elim (fun hk => Nat.lt_of_lt_of_le (hk0 k hk) hbw.size) fun hk => (hkk k hk).2) (hk v ⟨_, hv⟩ fun k hk hb2 => by have := hk0 k hb2; have := (hkk k hk).1; omega)
      generalize (execOp a.eval oi).run P w = r at h3 ⊢
      cases r with
      | ok n w' =>
        cases n <;> simp only [RunsTo] at h3 <;> simp only [Oper.upon]
        case value u => exact h4 _ _ h3.1 h3.2.1 h3.2.2
        case enter f args =>
          obtain ⟨e1, hc⟩ := h3
          rw [e1]
          exact hc.mono fun e w'' ⟨v, he, hbw, hv, hkk⟩ => by
            subst he
            exact h4 _ _ hbw hv hkk
      | halt x w' => simp only [RunsTo] at h3

theorem wpAny_of_ghead (hΨ : SteadyS Ψ) {n g : Nat} {L : Array Bool → Fx → Act → Prop} {Q' : Exit → Act → World → Prop}
    (hL : ∀ listed b a w, Below w0.heap.size w0 w → b.1 w → L listed b a → wpAny P md ops Q' g listed a w) :
    ∀ (f : Nat) (listed : Array Bool) (b : Fx) (a : Act) (w : World), Below w0.heap.size w0 w → b.1 w → Steady b.1 → (∀ k, b.2 k → k < w.heap.size) → gAny P md ops w0 Ψ n L f listed b a → wpAny P md ops Q' (f + g) listed a w
  | 0, listed, b, a, w, hw, hb, hs, hk, h => by rw [Nat.zero_add]; exact hL _ _ _ _ hw hb h
  | f + 1, listed, b, a, w, hw, hb, hs, hk, h => by
    rw [show f + 1 + g = (f + g) + 1 by omega]
    exact ⟨fun h0 => absurd h0 h.1, fun i hi => wpOp_of_gOp hΨ hw hb hs hk (fun b' a' w' hw' hb' hs' hk' h' => wpAny_of_ghead hΨ hL f _ b' a' w' hw' hb' hs' hk' h') (h.2 i hi).2⟩

theorem LYields.gOp {i : Nat} {oi : Oper} {v : Value} {b : Fx} {a : Act} (hi : ops[i]? = some oi) (hq : Ψ i = none) (hy : LYields P ops w0 oi v a) {K : Fx → Act → Prop} (h : K b (a.put oi.dst v)) : gOp P ops w0 Ψ i b K a := by
  unfold Proofs.Ytejkhpgahnncnaa.gOp
  simp only [hi, hq]
  exact ⟨v, hy, h⟩

theorem gAny_first {n i : Nat} {oi : Oper} {v : Value} {L : Array Bool → Fx → Act → Prop} (hi : ops[i]? = some oi) (hq : Ψ i = none) (hsel : ∀ (j : Nat) (o : Oper) cs b, ops[j]? = some o → o.op ≠ .select cs b)
    (hs : Region.sinkB md ops n = true) (hc : Region.chainB md ops n = true) (hn : n < ops.size) (hin : i < n)
    (hdone : ∀ listed b a, L listed b a → ∀ j ∈ Region.ready md ops listed, n ≤ j) :
    ∀ (f : Nat) (listed : Array Bool) (b : Fx) (a : Act), b.fin → HeadInv md ops n listed →
      (∀ j oj, ops[j]? = some oj → j ≠ i → listed.getD j true = false → (∀ e ∈ oj.after, Region.binds md e = true → e.on ≠ i) → oi.apart ops oj = true) →
      i ∈ Region.ready md ops listed → LYields P ops w0 oi v a →
      gAny P md ops w0 Ψ n L f (listed.setIfInBounds i true) b (a.put oi.dst v) → gAny P md ops w0 Ψ n L (f + 1) listed b a := by
  intro f
  induction f with
  | zero =>
    intro listed b a hfin inv _ hr hy H
    have hun := (mem_ready.1 hr).1
    refine ⟨fun h => (by rw [h] at hr; cases hr), fun j hj => ?_⟩
    have hjn : j < n := by
      rcases Nat.lt_or_ge j n with h | h
      · exact h
      · exact absurd hj (tail_waits hs hc hn inv _ i rfl hin hun j h)
    refine ⟨hjn, ?_⟩
    by_cases hji : j = i
    · subst hji; exact hy.gOp hi hq H
    · have := hdone _ _ _ H j (ready_mono hj hji)
      omega
  | succ f ih =>
    intro listed b a hfin inv hfree hr hy H
    have hun := (mem_ready.1 hr).1
    refine ⟨fun h => (by rw [h] at hr; cases hr), fun j hj => ?_⟩
    have hjn : j < n := by
      rcases Nat.lt_or_ge j n with h | h
      · exact h
      · exact absurd hj (tail_waits hs hc hn inv _ i rfl hin hun j h)
    refine ⟨hjn, ?_⟩
    by_cases hji : j = i
    · subst hji; exact hy.gOp hi hq H
    · have h1 := (H.2 j (ready_mono hj hji)).2
      obtain ⟨hjun, oj, hoj, hall⟩ := mem_ready.1 hj
      have hnot : ∀ e ∈ oj.after, Region.binds md e = true → e.on ≠ i := fun e he hb heq => by
        have h1 := hall e he hb
        rw [heq, getD_both hun] at h1
        cases h1
      have h2 := gOp_put hoj (hfree j oj hoj hji hjun hnot) (fun cs b => hsel i oi cs b hi) (fun cs b => hsel j oj cs b hoj) hy h1
      have hfree' : ∀ k ok, ops[k]? = some ok → k ≠ i → (listed.setIfInBounds j true).getD k true = false →
          (∀ e ∈ ok.after, Region.binds md e = true → e.on ≠ i) → oi.apart ops ok = true := fun k ok hk hki hun hno => by
        refine hfree k ok hk hki ?_ hno
        by_cases hjk : j = k
        · subst hjk; exact hjun
        · rw [getD_set_ne true hjk] at hun; exact hun
      refine gOp_mono hfin (fun b' a' hfin' h3 => ih (listed.setIfInBounds j true) b' a' hfin' (inv.set hj hjn) hfree' (ready_mono hr (Ne.symm hji)) h3.1 ?_) h2
      rw [Array.setIfInBounds_comm _ _ hji]
      exact h3.2

theorem gAny_firstS {n i : Nat} {oi : Oper} {ψ : Sem Next → Value → World → Prop} {L : Array Bool → Fx → Act → Prop} (hi : ops[i]? = some oi) (hq : Ψ i = some ψ) (hsel : ∀ (j : Nat) (o : Oper) cs b, ops[j]? = some o → o.op ≠ .select cs b)
    (hs : Region.sinkB md ops n = true) (hc : Region.chainB md ops n = true) (hn : n < ops.size) (hin : i < n)
    (hdone : ∀ listed b a, L listed b a → ∀ j ∈ Region.ready md ops listed, n ≤ j) :
    ∀ (f : Nat) (listed : Array Bool) (b : Fx) (a : Act), b.fin → HeadInv md ops n listed →
      (∀ j oj, ops[j]? = some oj → j ≠ i → listed.getD j true = false → (∀ e ∈ oj.after, Region.binds md e = true → e.on ≠ i) → oi.apart ops oj = true ∧ (Ψ j).isSome = true) →
      i ∈ Region.ready md ops listed → SpecAt P ops w0 oi ψ a →
      (∀ v, (∃ w, ψ (execOp a.eval oi) v w) → b.free v → gAny P md ops w0 Ψ n L f (listed.setIfInBounds i true) (b.upd (ψ (execOp a.eval oi)) v) (a.put oi.dst v)) → gAny P md ops w0 Ψ n L (f + 1) listed b a := by
  have one : ∀ {b : Fx} {a : Act} {K : Fx → Act → Prop}, SpecAt P ops w0 oi ψ a → (∀ v, (∃ w, ψ (execOp a.eval oi) v w) → b.free v → K (b.upd (ψ (execOp a.eval oi)) v) (a.put oi.dst v)) → gOp P ops w0 Ψ i b K a := by
    intro b a K h1 h2
    unfold gOp
    simp only [hi, hq]
    exact ⟨h1, h2⟩
  intro f
  induction f with
  | zero =>
    intro listed b a hfin inv _ hr hy H
    have hun := (mem_ready.1 hr).1
    refine ⟨fun h => (by rw [h] at hr; cases hr), fun j hj => ?_⟩
    have hjn : j < n := by
      rcases Nat.lt_or_ge j n with h | h
      · exact h
      · exact absurd hj (tail_waits hs hc hn inv _ i rfl hin hun j h)
    refine ⟨hjn, ?_⟩
    by_cases hji : j = i
    · subst hji; exact one hy H
    · obtain ⟨v0, hv0, hf0⟩ := hy.inh hfin
      have := hdone _ _ _ (H v0 hv0 hf0) j (ready_mono hj hji)
      omega
  | succ f ih =>
    intro listed b a hfin inv hfree hr hy H
    have hun := (mem_ready.1 hr).1
    refine ⟨fun h => (by rw [h] at hr; cases hr), fun j hj => ?_⟩
    have hjn : j < n := by
      rcases Nat.lt_or_ge j n with h | h
      · exact h
      · exact absurd hj (tail_waits hs hc hn inv _ i rfl hin hun j h)
    refine ⟨hjn, ?_⟩
    by_cases hji : j = i
    · subst hji; exact one hy H
    · have h1 := fun v hv hf => ((H v hv hf).2 j (ready_mono hj hji)).2
      obtain ⟨hjun, oj, hoj, hall⟩ := mem_ready.1 hj
      have hnot : ∀ e ∈ oj.after, Region.binds md e = true → e.on ≠ i := fun e he hb heq => by
        have h1 := hall e he hb
        rw [heq, getD_both hun] at h1
        cases h1
      obtain ⟨hap, hsp⟩ := hfree j oj hoj hji hjun hnot
      obtain ⟨ψj, hψj⟩ := Option.isSome_iff_exists.1 hsp
      have h2 := gOp_putS hoj hψj hap (fun cs b => hsel i oi cs b hi) (fun cs b => hsel j oj cs b hoj) hfin hy h1
      have hfree' : ∀ k ok, ops[k]? = some ok → k ≠ i → (listed.setIfInBounds j true).getD k true = false →
          (∀ e ∈ ok.after, Region.binds md e = true → e.on ≠ i) → oi.apart ops ok = true ∧ (Ψ k).isSome = true := fun k ok hk hki hun hno => by
        refine hfree k ok hk hki ?_ hno
        by_cases hjk : j = k
        · subst hjk; exact hjun
        · rw [getD_set_ne true hjk] at hun; exact hun
      refine gOp_mono hfin (fun b' a' hfin' h3 => ih (listed.setIfInBounds j true) b' a' hfin' (inv.set hj hjn) hfree' (ready_mono hr (Ne.symm hji)) h3.1 fun v hv hf => ?_) h2
      rw [Array.setIfInBounds_comm _ _ hji]
      exact h3.2 v hv hf

/-- The walk, in an order that is handed in. -/
def wpFacts (P : Program) (ops : Array Oper) (w0 : World) (Ψ : Spec) (Q : Fx → Act → Prop) : List Nat → Fx → Act → Prop
  | [], b, a => Q b a
  | k :: l, b, a => match ops[k]? with
    | none => False
    | some o => match Ψ k with
      | none => ∃ v, LYields P ops w0 o v a ∧ wpFacts P ops w0 Ψ Q l b (a.put o.dst v)
      | some ψ => SpecAt P ops w0 o ψ a ∧ ∀ v, (∃ w, ψ (execOp a.eval o) v w) → b.free v → wpFacts P ops w0 Ψ Q l (b.upd (ψ (execOp a.eval o)) v) (a.put o.dst v)

/-- Nobody that may come before it is quiet. -/
def specB (md : Region.Mode) (ops : Array Oper) (sp : List Nat) (listed : Array Bool) (i : Nat) : Bool :=
  (List.range ops.size).all fun j => j == i || listed.getD j true || match ops[j]? with
    | some oj => oj.after.any (fun e => Region.binds md e && e.on == i) || sp.contains j
    | none => true
theorem specB_spec {sp : List Nat} {i : Nat} {listed : Array Bool} (h : specB md ops sp listed i = true) (j : Nat) (oj : Oper)
    (hj : ops[j]? = some oj) (hne : j ≠ i) (hun : listed.getD j true = false) (hno : ∀ e ∈ oj.after, Region.binds md e = true → e.on ≠ i) : j ∈ sp := by
  simp only [specB, List.all_eq_true, List.mem_range] at h
  have h1 := h j (Array.getElem?_eq_some_iff.1 hj).1
  simp only [hj, Bool.or_eq_true, beq_iff_eq, hne, false_or, hun, Bool.false_eq_true] at h1
  rcases h1 with h1 | h1
  · obtain ⟨e, he, hb⟩ := Array.any_eq_true'.1 h1
    simp only [Bool.and_eq_true, beq_iff_eq] at hb
    exact absurd hb.2 (hno e he hb.1)
  · simpa using h1
def ordB (md : Region.Mode) (ops : Array Oper) (sp : List Nat) (g n : Nat) : List Nat → Array Bool → Bool
  | [], listed => Region.seqB md ops g n listed
  | k :: l, listed => (Region.ready md ops listed).contains k && decide (k < n) && Region.free md ops listed k && (!sp.contains k || specB md ops sp listed k) && ordB md ops sp g n l (listed.setIfInBounds k true)

theorem gAny_ord {n g : Nat} {sp : List Nat} (hsp : ∀ j, j ∈ sp ↔ (Ψ j).isSome = true) {Lq : Fx → Act → Prop} (hsel : Region.noSelect ops = true) (hs : Region.sinkB md ops n = true) (hc : Region.chainB md ops n = true) (hn : n < ops.size) :
    ∀ (l : List Nat) (listed : Array Bool) (b : Fx) (a : Act), b.fin → HeadInv md ops n listed → ordB md ops sp g n l listed = true → wpFacts P ops w0 Ψ Lq l b a →
    gAny P md ops w0 Ψ n (fun listed' b a' => Region.seqB md ops g n listed' = true ∧ Lq b a') l.length listed b a
  | [], listed, b, a, hfin, inv, hB, h => ⟨hB, h⟩
  | k :: l, listed, b, a, hfin, inv, hB, h => by
    simp only [ordB, Bool.and_eq_true, decide_eq_true_eq] at hB
    obtain ⟨⟨⟨⟨hrd, hkn⟩, hf⟩, hsb⟩, hB'⟩ := hB
    have hr' : k ∈ Region.ready md ops listed := by simpa using hrd
    unfold wpFacts at h
    cases h0 : ops[k]? with
    | none => rw [h0] at h; exact h.elim
    | some o =>
      rw [h0] at h
      simp only at h
      cases hq : Ψ k with
      | none =>
        rw [hq] at h
        obtain ⟨v, hy, hK⟩ := h
        exact gAny_first h0 hq (Region.noSelect_spec hsel) hs hc hn hkn (fun listed' _ a' hL => seqB_ready hL.1) l.length listed b a hfin inv (Region.free_spec h0 hf) hr' hy
          (gAny_ord hsp hsel hs hc hn l _ _ _ hfin (inv.set hr' hkn) hB' hK)
      | some ψ =>
        rw [hq] at h
        have hk : k ∈ sp := (hsp k).2 (by rw [hq]; rfl)
        have hsb' : specB md ops sp listed k = true := by
          rw [Bool.or_eq_true] at hsb
          rcases hsb with h | h
          · have : sp.contains k = true := by simpa using hk
            rw [this] at h; cases h
          · exact h
        exact gAny_firstS h0 hq (Region.noSelect_spec hsel) hs hc hn hkn (fun listed' _ a' hL => seqB_ready hL.1) l.length listed b a hfin inv
          (fun j oj h1 h2 h3 h4 => ⟨Region.free_spec h0 hf j oj h1 h2 h3 h4, (hsp j).1 (specB_spec hsb' j oj h1 h2 h3 h4)⟩) hr' h.1
          fun v hv hf => gAny_ord hsp hsel hs hc hn l _ _ _ (Fx.fin_upd hfin _ _) (inv.set hr' hkn) hB' (h.2 v hv hf)

theorem wp_region_facts {id : Nat} {Q : Exit → Act → World → Prop} {a : Act} {w : World} {l : List Oper} (n : Nat) (ord sp : List Nat) (Ψ : Spec) (hΨ : SteadyS Ψ) (hsp : ∀ j, j ∈ sp ↔ (Ψ j).isSome = true) (hm : P.follows .mixedOrders = true)
    (hB : (Region.noSelect l.toArray && decide (n < l.toArray.size) && decide (ord.length = n) && Region.sinkB .any l.toArray n && Region.chainB .any l.toArray n && ordB .any l.toArray sp (l.toArray.size - n) n ord (Array.replicate l.toArray.size false)) = true)
    (h : wpFacts P l.toArray w Ψ (fun b a' => ∀ w', Below w.heap.size w w' → b.1 w' → wpList P l.toArray Q (l.drop n) a' w') ord (fun _ => True, fun _ => False) a) : (Code.region id l.toArray true).wp P Q a w := by
  simp only [Bool.and_eq_true, decide_eq_true_eq] at hB
  obtain ⟨⟨⟨⟨⟨hsel, hn⟩, hol⟩, hs⟩, hc⟩, hlex⟩ := hB
  have hdl : (l.drop n).length = l.toArray.size - n := by simp
  have inv0 : HeadInv .any l.toArray n (Array.replicate l.toArray.size false) :=
    ⟨by simp, fun j oj _ hl => (by rw [getD_replicate_false] at hl; cases hl), fun t _ ht => getD_in (by simpa using ht) (getD_replicate_false _ _)⟩
  have H := gAny_ord (P := P) (w0 := w) (md := .any) (g := l.toArray.size - n) hsp hsel hs hc hn ord _ (fun _ => True, fun _ => False) a ⟨0, fun k (hk : False) => hk.elim⟩ inv0 hlex h
  refine wp_region_any hm ?_
  have := wpAny_of_ghead (md := .any) (Q' := Q) (g := l.toArray.size - n) hΨ (fun listed b a' w' hw' hb hL => by
    obtain ⟨hseq, hq⟩ := hL
    have := wpAny_of_seq (md := .any) (Q' := Q) (l.drop n) n listed a' w' (fun j => by simp [List.getElem?_drop]) (by rw [hdl]; exact hseq) (hq w' hw' hb)
    rwa [hdl] at this) _ _ _ _ w.drew (Below.refl _ _).drew trivial (fun _ _ _ _ => trivial) (fun k (hk : False) => hk.elim) H
  rw [hol, show n + (l.toArray.size - n) = l.toArray.size by omega] at this
  exact this
theorem wpFacts_nil {Q : Fx → Act → Prop} {b : Fx} {a : Act} (h : Q b a) : wpFacts P ops w0 Ψ Q [] b a := h
theorem wpFacts_q {Q : Fx → Act → Prop} {k : Nat} {l : List Nat} {b : Fx} {a : Act} {o : Oper} (ho : ops[k]? = some o) (hq : Ψ k = none)
    (h : ∀ K : Act → Prop, (∀ a, wpFacts P ops w0 Ψ Q l b a → K a) → if Region.wanted o (yielded ops a.tmps) then ∃ v, (∀ s : Later w0, Oper.quietUpon P (fun w'' => Below s.world.heap.size s.world w'') s.world v ((execOp a.eval o).run P s.world)) ∧ K (a.put o.dst v) else K (a.put o.dst undef)) :
    wpFacts P ops w0 Ψ Q (k :: l) b a := by
  have := h _ (fun _ h => h)
  unfold wpFacts
  simp only [ho, hq]
  split at this
  · rename_i hw
    obtain ⟨v, h1, h2⟩ := this
    exact ⟨v, .inl ⟨hw, h1⟩, h2⟩
  · rename_i hw
    exact ⟨undef, .inr ⟨by simpa using hw, rfl⟩, this⟩
theorem wpFacts_s {Q : Fx → Act → Prop} {k : Nat} {l : List Nat} {b : Fx} {a : Act} {o : Oper} {ψ : Sem Next → Value → World → Prop} (ho : ops[k]? = some o) (hq : Ψ k = some ψ) (hw : Region.wanted o (yielded ops a.tmps) = true)
    (hr : ∀ s : Later w0, RunsTo P s.world (ψ (execOp a.eval o)) ((execOp a.eval o).run P s.world)) (h : ∀ v w, ψ (execOp a.eval o) v w → b.free v → wpFacts P ops w0 Ψ Q l (b.upd (ψ (execOp a.eval o)) v) (a.put o.dst v)) : wpFacts P ops w0 Ψ Q (k :: l) b a := by
  unfold wpFacts
  simp only [ho, hq]
  exact ⟨⟨hw, hr⟩, fun v ⟨w, hv⟩ => h v w hv⟩
end
end Go.Proofs.Ytejkhpgahnncnaa
end

section
namespace Go.Proofs.Ytejkhpgahnncnaa
open Go.RowKit
set_option linter.unusedVariables false
set_option linter.unusedSimpArgs false

/-- Cells of new blocks. -/
def SNew (B : Nat) (w : World) (b o : Nat) : Prop := B ≤ b ∧ ∃ v, stay w b o = some v ∧ v.2.2 = (0, 0)
theorem sext_of {S : Nat → Nat → Prop} {w w' : World} (h : ∀ b o, S b o → w'.heap[b]? = w.heap[b]?) : SExt S w S w' := fun b o hs => ⟨hs, stay_heap (h b o hs) o⟩
theorem ones_ints (l : List Int) : Ones (l.map (Value.int .i64)) := by
  intro v hv
  obtain ⟨x, _, rfl⟩ := List.mem_map.1 hv
  rfl
/-- New numbers: the cells that hold them. -/
structure NumsAt (B : Nat) (w : World) (l : List Int) (v : Value) : Prop where
  is : ∃ S : Nat → Nat → Prop, Rep S w [] [] (aIs l) v ∧ ∀ b o, S b o → SNew B w b o ∧ ∃ x, w.cell? ⟨b, o, none⟩ = some (.int .i64 x)
theorem NumsAt.later {B : Nat} {w w' : World} {l : List Int} {v : Value} (h : NumsAt B w l v) (hb : Below w.heap.size w w') : NumsAt B w' l v := by
  obtain ⟨S, h1, h2⟩ := h.is
  have hx : ∀ b o, S b o → w'.heap[b]? = w.heap[b]? := fun b o hs => by
    obtain ⟨⟨_, u, hu, _⟩, _⟩ := h2 b o hs
    exact hb.block b (stay_lt hu)
  refine ⟨S, Rep.mono (sext_of hx) h1 (.refl _ _), fun b o hs => ?_⟩
  obtain ⟨⟨h3, u, hu, hf⟩, x, hc⟩ := h2 b o hs
  exact ⟨⟨h3, u, (stay_heap (hx b o hs) o).trans hu, hf⟩, x, cell_later hb hc⟩

set_option maxRecDepth 100000 in
set_option maxHeartbeats 1000000 in
theorem own_any (w : World) (v : Value) (l : List Int) (hv : Sl rI w v l) (hl : l.length ≤ 1000) : Calls Try.prog 34 #[v] w fun e w' => ∃ u, e = .returned u ∧ Below w.heap.size w w' ∧ w'.ownsRow w.heap.size 3 1 u l.length (l.map (Value.int .i64)) := by
  have hwf : ∀ x ∈ l, (Lit.int .i64 x).wf = true := by
    intro x hx
    obtain ⟨i, hi, rfl⟩ := List.getElem_of_mem hx
    obtain ⟨a, cap, _, h⟩ := ints_view hv
    obtain ⟨b, off, _, _, h1, h2⟩ := h i hi
    rw [Lit.wf, Bool.and_eq_true]
    exact ⟨decide_eq_true h1, decide_eq_true h2⟩
  have harr : Arr w 1 v l.length (l.map (Value.int .i64)) := by
    obtain ⟨a', cap', h1, h2⟩ := ints_view hv
    obtain ⟨a, cap, h0, hp, _⟩ := hv
    obtain rfl : v = .slice a l.length cap := by simpa using h0
    refine ⟨by simp, a, cap, rfl, hp, fun j u hj => ?_⟩
    rw [List.getElem?_map] at hj
    cases hjl : l[j]? with
    | none => rw [hjl] at hj; cases hj
    | some x =>
      rw [hjl] at hj
      obtain rfl := Option.some.inj hj
      obtain ⟨hj', rfl⟩ := List.getElem?_eq_some_iff.1 hjl
      obtain ⟨b, off, h3, h4, _⟩ := h2 j hj'
      obtain ⟨rfl, _, rfl⟩ := Value.slice.inj h1
      exact ⟨b, off, h3, h4⟩
  have HA := Lib.hid harr
  have HW := Lib.hid hwf
  obtain ⟨a, cap, rfl, _⟩ := ints_view hv
  clear hv harr hwf
  obtain ⟨i0, hi, hi0, hi1, hi2⟩ : ∃ i, Try.prog.info? 3 = some i ∧ i.zero = some (.int .i64 0) ∧ i.size = 1 ∧ i.bytes = 8 := info_of (by kernel_rfl)
  go_enter Try.func34, Try.ntmps34
  go_wp2_with (at_builtin; refine wpList_append_arr rfl _ _ 22 rfl w.heap.size 3 i0 _ 1 8 Try.underlying22 hi hi0 hi1 hi2 rfl (by decide) _ 0 [] rfl (World.ownsRow_nil _ _ _ _) _ _ _ rfl HA.out (ones_ints _) ?a1 ?a2 ?a3 ?_)
  case a1 => unfold maxLen; omega
  case a2 => omega
  case a3 => exact Nat.le_refl _
  intro v' w' hown hg
  have HB := Lib.hid (show Below w.heap.size w w' from Below.grown (Below.refl _ _) hg (Nat.le_refl _) (by simp [Value.ownBlock]))
  try rw [Nat.zero_add, List.nil_append] at hown
  have HN := Lib.hid hown
  clear hown hg
  go_wp2_with fail
  go_ret
  exact ⟨_, rfl, HB.out, HN.out⟩
end Go.Proofs.Ytejkhpgahnncnaa
end

