/- Parts of the proofs: what they lean on. Conditions: none. -/
import Derived.StillTail
import Derived.OneCell
import Derived.Test.YtejkhpgahnncnaaProg
import Derived.Test.YtejkhpgahnncnaaCstS12
section
namespace Go.Proofs.Ytejkhpgahnncnaa
open Go.RowKit
set_option linter.unusedVariables false
set_option linter.unusedSimpArgs false

section
variable {P : Program} {ops : Array Oper} {md : Region.Mode} {w0 : World}

abbrev Spec := Nat → Option (Sem Next → Value → World → Prop)
def Steady (Φ : World → Prop) : Prop := ∀ w w' : World, Below w.heap.size w w' → Φ w → Φ w'
def SteadyS (Ψ : Spec) : Prop := ∀ i ψ, Ψ i = some ψ → ∀ x v, Steady (ψ x v)
theorem Steady.and {Φ Χ : World → Prop} (h : Steady Φ) (k : Steady Χ) : Steady fun w => Φ w ∧ Χ w := fun w w' hb hw => ⟨h w w' hb hw.1, k w w' hb hw.2⟩
/-- The block to which a value points. -/
def blkOf : Value → Option Nat
  | .slice (some ad) _ _ => some ad.block
  | .pointer (some ad) => some ad.block
  | _ => none
/-- What is known, and which blocks are new. -/
abbrev Fx := (World → Prop) × (Nat → Prop)
def Fx.upd (b : Fx) (φ : Value → World → Prop) (v : Value) : Fx := (fun w => b.1 w ∧ φ v w, fun k => b.2 k ∨ blkOf v = some k)
def Fx.free (b : Fx) (v : Value) : Prop := ∀ k, blkOf v = some k → ¬ b.2 k
def Fx.fin (b : Fx) : Prop := ∃ N, ∀ k, b.2 k → k < N
theorem Fx.fin_upd {b : Fx} (h : b.fin) (φ : Value → World → Prop) (v : Value) : (b.upd φ v).fin := by
  obtain ⟨N, h⟩ := h
  cases hv : blkOf v with
  | none => exact ⟨N, fun k hk => hk.elim (h k) fun e => by rw [hv] at e; cases e⟩
  | some x => exact ⟨N + x + 1, fun k hk => hk.elim (fun hk => by have := h k hk; omega) fun e => by rw [hv] at e; have := Option.some.inj e; omega⟩
theorem later_large (w0 : World) : ∀ N : Nat, ∃ s : Later w0, N ≤ s.world.heap.size
  | 0 => ⟨Later.self w0, Nat.zero_le _⟩
  | N + 1 => by
    obtain ⟨s, hs⟩ := later_large w0 N
    exact ⟨⟨s.world.alloc (.cells #[] 0), s.below.alloc s.below.size _⟩, by rw [World.size_alloc]; omega⟩
theorem Fx.comm (b : Fx) (φ χ : Value → World → Prop) (v u : Value) : (b.upd φ v).upd χ u = (b.upd χ u).upd φ v := by
  unfold Fx.upd
  congr 1
  · funext w; exact propext and_right_comm
  · funext k; exact propext or_right_comm
theorem Fx.free_comm {b : Fx} {φ χ : Value → World → Prop} {v u : Value} (h1 : b.free u) (h2 : (b.upd χ u).free v) : b.free v ∧ (b.upd φ v).free u :=
  ⟨fun k hk hb => h2 k hk (.inl hb), fun k hk hb => hb.elim (h1 k hk) fun hv => h2 k hv (.inr hk)⟩
/-- An operation's run: what it hands back is so. -/
def RunsTo (P : Program) (w : World) (Φ : Value → World → Prop) : Result Next → Prop
  | .ok (.value u) w' => Below w.heap.size w w' ∧ Φ u w' ∧ ∀ k, blkOf u = some k → w.heap.size ≤ k ∧ k < w'.heap.size
  | .ok (.enter f args) w' => w' = w ∧ Calls P f args w fun e w'' => ∃ v, e = .returned v ∧ Below w.heap.size w w'' ∧ Φ v w'' ∧ ∀ k, blkOf v = some k → w.heap.size ≤ k ∧ k < w''.heap.size
  | _ => False

def SpecAt (P : Program) (ops : Array Oper) (w0 : World) (o : Oper) (ψ : Sem Next → Value → World → Prop) (a : Act) : Prop :=
  Region.wanted o (yielded ops a.tmps) = true ∧ ∀ s : Later w0, RunsTo P s.world (ψ (execOp a.eval o)) ((execOp a.eval o).run P s.world)
theorem SpecAt.of_same {o : Oper} {ψ : Sem Next → Value → World → Prop} {a a' : Act} (hy : SpecAt P ops w0 o ψ a) (he : execOp a'.eval o = execOp a.eval o)
    (hw : Region.wanted o (yielded ops a'.tmps) = Region.wanted o (yielded ops a.tmps)) : SpecAt P ops w0 o ψ a' := by
  unfold SpecAt at *
  rw [hw, he]; exact hy

def gOp (P : Program) (ops : Array Oper) (w0 : World) (Ψ : Spec) (i : Nat) (b : Fx) (K : Fx → Act → Prop) (a : Act) : Prop :=
  match ops[i]? with
  | none => K b a
  | some o => match Ψ i with
    | none => ∃ v, LYields P ops w0 o v a ∧ K b (a.put o.dst v)
    | some ψ => SpecAt P ops w0 o ψ a ∧ ∀ v, (∃ w, ψ (execOp a.eval o) v w) → b.free v → K (b.upd (ψ (execOp a.eval o)) v) (a.put o.dst v)
variable {Ψ : Spec}

theorem gOp_mono {i : Nat} {b : Fx} {a : Act} {K K' : Fx → Act → Prop} (hfin : b.fin) (h : ∀ b a, b.fin → K b a → K' b a) (hh : gOp P ops w0 Ψ i b K a) : gOp P ops w0 Ψ i b K' a := by
  unfold gOp at *
  split
  · rename_i ho; simp only [ho] at hh; exact h _ _ hfin hh
  · rename_i o ho
    simp only [ho] at hh
    split
    · rename_i hs
      simp only [hs] at hh
      obtain ⟨v, hy, hk⟩ := hh
      exact ⟨v, hy, h _ _ hfin hk⟩
    · rename_i ψ hs
      simp only [hs] at hh
      exact ⟨hh.1, fun v hv hf => h _ _ (hfin.elim fun N hN => Fx.fin_upd ⟨N, hN⟩ _ _) (hh.2 v hv hf)⟩

theorem gOp_put {j : Nat} {oi oj : Oper} {v : Value} (hj : ops[j]? = some oj) (hap : oi.apart ops oj = true)
    (hsi : ∀ cs b, oi.op ≠ .select cs b) (hsj : ∀ cs b, oj.op ≠ .select cs b) {b : Fx} {K : Fx → Act → Prop} {a : Act}
    (hy : LYields P ops w0 oi v a) (h : gOp P ops w0 Ψ j b K (a.put oi.dst v)) :
    gOp P ops w0 Ψ j b (fun b' a' => LYields P ops w0 oi v a' ∧ K b' (a'.put oi.dst v)) a := by
  obtain ⟨h1, h2, h3⟩ := Oper.apart_spec hap
  have keep : ∀ (a : Act), LYields P ops w0 oi v a → ∀ u, LYields P ops w0 oi v (a.put oj.dst u) := fun a hy u =>
    hy.of_same (execOp_put oi hsi a oj.dst u h3) (wanted_put oi a oj.dst u h3)
  have he : execOp (a.put oi.dst v).eval oj = execOp a.eval oj := execOp_put oj hsj a oi.dst v h1
  unfold gOp at *
  simp only [hj] at *
  split
  · rename_i hs
    simp only [hs] at h
    obtain ⟨u, hu, hn⟩ := h
    exact ⟨u, hu.of_same he.symm (wanted_put oj a oi.dst v h1).symm, keep a hy u, by rw [← Act.put_comm a v u h2]; exact hn⟩
  · rename_i ψ hs
    simp only [hs] at h
    refine ⟨h.1.of_same he.symm (wanted_put oj a oi.dst v h1).symm, fun u hu hf => ⟨keep a hy u, ?_⟩⟩
    rw [← Act.put_comm a v u h2, ← he]; exact h.2 u (by rw [he]; exact hu) hf

theorem SpecAt.inh {o : Oper} {ψ : Sem Next → Value → World → Prop} {a : Act} (h : SpecAt P ops w0 o ψ a) {b : Fx} (hb : b.fin) : ∃ v, (∃ w, ψ (execOp a.eval o) v w) ∧ b.free v := by
  obtain ⟨N, hN⟩ := hb
  obtain ⟨s, hs⟩ := later_large w0 N
  have h3 := h.2 s
  generalize (execOp a.eval o).run P s.world = r at h3
  cases r with
  | ok n w' =>
    cases n <;> simp only [RunsTo] at h3
    case value u => exact ⟨_, ⟨_, h3.2.1⟩, fun k hk hbk => by have := hN k hbk; have := (h3.2.2 k hk).1; omega⟩
    case enter f args =>
      obtain ⟨e, w2, fr, ⟨v, _, _, hv, hk'⟩, _⟩ := h3.2 []
      exact ⟨v, ⟨w2, hv⟩, fun k hk hbk => by have := hN k hbk; have := (hk' k hk).1; omega⟩
  | halt x w' => simp only [RunsTo] at h3
theorem gOp_putS {j : Nat} {oi oj : Oper} {ψi ψj : Sem Next → Value → World → Prop} (hj : ops[j]? = some oj) (hψj : Ψ j = some ψj) (hap : oi.apart ops oj = true)
    (hsi : ∀ cs b, oi.op ≠ .select cs b) (hsj : ∀ cs b, oj.op ≠ .select cs b) {b : Fx} {K : Fx → Act → Prop} {a : Act}
    (hfin : b.fin) (hy : SpecAt P ops w0 oi ψi a) (h : ∀ v, (∃ w, ψi (execOp a.eval oi) v w) → b.free v → gOp P ops w0 Ψ j (b.upd (ψi (execOp a.eval oi)) v) K (a.put oi.dst v)) :
    gOp P ops w0 Ψ j b (fun b' a' => SpecAt P ops w0 oi ψi a' ∧ ∀ v, (∃ w, ψi (execOp a'.eval oi) v w) → b'.free v → K (b'.upd (ψi (execOp a'.eval oi)) v) (a'.put oi.dst v)) a := by
  obtain ⟨h1, h2, h3⟩ := Oper.apart_spec hap
  have he : ∀ v, execOp (a.put oi.dst v).eval oj = execOp a.eval oj := fun v => execOp_put oj hsj a oi.dst v h1
  have hi : ∀ u, execOp (a.put oj.dst u).eval oi = execOp a.eval oi := fun u => execOp_put oi hsi a oj.dst u h3
  unfold gOp at *
  simp only [hj, hψj] at *
  obtain ⟨v0, hv0, hf0⟩ := hy.inh hfin
  refine ⟨(h v0 hv0 hf0).1.of_same (he v0).symm (wanted_put oj a oi.dst v0 h1).symm, fun u hu hfu => ⟨hy.of_same (hi u) (wanted_put oi a oj.dst u h3), fun v hv hfv => ?_⟩⟩
  rw [hi] at hv
  obtain ⟨g1, g2⟩ := Fx.free_comm (φ := ψi (execOp a.eval oi)) hfu hfv
  have := (h v hv g1).2 u (by rw [he]; exact hu) g2
  rw [he, Act.put_comm a v u h2, Fx.comm] at this
  rw [hi]
  exact this

def gAny (P : Program) (md : Region.Mode) (ops : Array Oper) (w0 : World) (Ψ : Spec) (n : Nat) (L : Array Bool → Fx → Act → Prop) : Nat → Array Bool → Fx → Act → Prop
  | 0, listed, b, a => L listed b a
  | f + 1, listed, b, a =>
    Region.ready md ops listed ≠ [] ∧ ∀ i ∈ Region.ready md ops listed, i < n ∧ gOp P ops w0 Ψ i b (fun b' a' => gAny P md ops w0 Ψ n L f (listed.setIfInBounds i true) b' a') a

theorem wpOp_of_gOp (hΨ : SteadyS Ψ) {i : Nat} {b : Fx} {a : Act} {K : Fx → Act → Prop} {K' : Act → World → Prop} {Q' : Exit → Act → World → Prop} {w : World} (hw : Below w0.heap.size w0 w) (hb : b.1 w) (hs : Steady b.1) (hk0 : ∀ k, b.2 k → k < w.heap.size)
    (h : ∀ (b' : Fx) a' w', Below w0.heap.size w0 w' → b'.1 w' → Steady b'.1 → (∀ k, b'.2 k → k < w'.heap.size) → K b' a' → K' a' w') (hh : gOp P ops w0 Ψ i b K a) : wpOp P ops Q' i K' a w := by
  unfold gOp at hh
  unfold wpOp
  split
  · rename_i ho; simp only [ho] at hh; exact h _ _ _ hw hb hs hk0 hh
  · rename_i oi ho
    simp only [ho] at hh
    split at hh
    · obtain ⟨v, hy, hk⟩ := hh
      rcases hy with ⟨hwt, hq⟩ | ⟨hwt, rfl⟩
      · rw [if_pos hwt]
        left
        have h3 := hq ⟨w, hw⟩
        unfold Oper.quietAt at h3
        unfold Oper.wp
        dsimp only at h3
        generalize (execOp a.eval oi).run P w = r at *
        cases r with
        | ok n w' =>
          cases n <;> simp only [Oper.quietUpon] at h3 <;> simp only [Oper.upon]
          case value u =>
            obtain ⟨e1, e2⟩ := h3
            rw [e1, e2]
            exact h _ _ _ hw hb hs hk0 hk
          case skip =>
            obtain ⟨e1, e2⟩ := h3
            rw [e1, ← e2]
            exact h _ _ _ hw hb hs hk0 hk
          case enter f args =>
            obtain ⟨e1, hc⟩ := h3
            rw [e1]
            exact hc.mono fun e w'' ⟨he, hw''⟩ => by
              subst he
              exact h _ _ _ (hw.trans (hw''.mono hw.size)) (hs _ _ hw'' hb) hs (fun k hk => Nat.lt_of_lt_of_le (hk0 k hk) hw''.size) hk
        | halt x w' => simp only [Oper.quietUpon] at h3
      · rw [if_neg (by rw [hwt]; exact Bool.false_ne_true)]
        exact h _ _ _ hw hb hs hk0 hk
    · rename_i ψ hψ
      obtain ⟨⟨hwt, hrun⟩, hk⟩ := hh
      rw [if_pos hwt]
      left
      have h3 := hrun ⟨w, hw⟩
      have hst : ∀ v, Steady (b.upd (ψ (execOp a.eval oi)) v).1 := fun v => hs.and (hΨ i ψ hψ _ v)
      unfold Oper.wp
      dsimp only at h3
      have h4 : ∀ v w', Below w.heap.size w w' → ψ (execOp a.eval oi) v w' → (∀ k, blkOf v = some k → w.heap.size ≤ k ∧ k < w'.heap.size) → K' (a.put oi.dst v) w' := fun v w' hbw hv hkk =>
        h _ _ _ (hw.trans (hbw.mono hw.size)) (show (b.upd (ψ (execOp a.eval oi)) v).1 w' from ⟨hs _ _ hbw hb, hv⟩) (hst v) (fun k hk => hk.elim (fun hk => Nat.lt_of_lt_of_le (hk0 k hk) hbw.size) fun hk => (hkk k hk).2) (hk v ⟨_, hv⟩ fun k hk hb2 => by have := hk0 k hb2; have := (hkk k hk).1; omega)
      generalize (execOp a.eval oi).run P w = r at h3 ⊢
      cases r with
      | ok n w' =>
        cases n <;> simp only [RunsTo] at h3 <;> simp only [Oper.upon]
        case value u => exact h4 _ _ h3.1 h3.2.1 h3.2.2
        case enter f args =>
          obtain ⟨e1, hc⟩ := h3
          rw [e1]
          exact hc.mono fun e w'' ⟨v, he, hbw, hv, hkk⟩ => by
            subst he
            exact h4 _ _ hbw hv hkk
      | halt x w' => simp only [RunsTo] at h3

theorem wpAny_of_ghead (hΨ : SteadyS Ψ) {n g : Nat} {L : Array Bool → Fx → Act → Prop} {Q' : Exit → Act → World → Prop}
    (hL : ∀ listed b a w, Below w0.heap.size w0 w → b.1 w → L listed b a → wpAny P md ops Q' g listed a w) :
    ∀ (f : Nat) (listed : Array Bool) (b : Fx) (a : Act) (w : World), Below w0.heap.size w0 w → b.1 w → Steady b.1 → (∀ k, b.2 k → k < w.heap.size) → gAny P md ops w0 Ψ n L f listed b a → wpAny P md ops Q' (f + g) listed a w
  | 0, listed, b, a, w, hw, hb, hs, hk, h => by rw [Nat.zero_add]; exact hL _ _ _ _ hw hb h
  | f + 1, listed, b, a, w, hw, hb, hs, hk, h => by
    rw [show f + 1 + g = (f + g) + 1 by omega]
    exact ⟨fun h0 => absurd h0 h.1, fun i hi => wpOp_of_gOp hΨ hw hb hs hk (fun b' a' w' hw' hb' hs' hk' h' => wpAny_of_ghead hΨ hL f _ b' a' w' hw' hb' hs' hk' h') (h.2 i hi).2⟩

theorem LYields.gOp {i : Nat} {oi : Oper} {v : Value} {b : Fx} {a : Act} (hi : ops[i]? = some oi) (hq : Ψ i = none) (hy : LYields P ops w0 oi v a) {K : Fx → Act → Prop} (h : K b (a.put oi.dst v)) : gOp P ops w0 Ψ i b K a := by
  unfold Proofs.Ytejkhpgahnncnaa.gOp
  simp only [hi, hq]
  exact ⟨v, hy, h⟩

theorem gAny_first {n i : Nat} {oi : Oper} {v : Value} {L : Array Bool → Fx → Act → Prop} (hi : ops[i]? = some oi) (hq : Ψ i = none) (hsel : ∀ (j : Nat) (o : Oper) cs b, ops[j]? = some o → o.op ≠ .select cs b)
    (hs : Region.sinkB md ops n = true) (hc : Region.chainB md ops n = true) (hn : n < ops.size) (hin : i < n)
    (hdone : ∀ listed b a, L listed b a → ∀ j ∈ Region.ready md ops listed, n ≤ j) :
    ∀ (f : Nat) (listed : Array Bool) (b : Fx) (a : Act), b.fin → HeadInv md ops n listed →
      (∀ j oj, ops[j]? = some oj → j ≠ i → listed.getD j true = false → (∀ e ∈ oj.after, Region.binds md e = true → e.on ≠ i) → oi.apart ops oj = true) →
      i ∈ Region.ready md ops listed → LYields P ops w0 oi v a →
      gAny P md ops w0 Ψ n L f (listed.setIfInBounds i true) b (a.put oi.dst v) → gAny P md ops w0 Ψ n L (f + 1) listed b a := by
  intro f
  induction f with
  | zero =>
    intro listed b a hfin inv _ hr hy H
    have hun := (mem_ready.1 hr).1
    refine ⟨fun h => (by rw [h] at hr; cases hr), fun j hj => ?_⟩
    have hjn : j < n := by
      rcases Nat.lt_or_ge j n with h | h
      · exact h
      · exact absurd hj (tail_waits hs hc hn inv _ i rfl hin hun j h)
    refine ⟨hjn, ?_⟩
    by_cases hji : j = i
    · subst hji; exact hy.gOp hi hq H
    · have := hdone _ _ _ H j (ready_mono hj hji)
      omega
  | succ f ih =>
    intro listed b a hfin inv hfree hr hy H
    have hun := (mem_ready.1 hr).1
    refine ⟨fun h => (by rw [h] at hr; cases hr), fun j hj => ?_⟩
    have hjn : j < n := by
      rcases Nat.lt_or_ge j n with h | h
      · exact h
      · exact absurd hj (tail_waits hs hc hn inv _ i rfl hin hun j h)
    refine ⟨hjn, ?_⟩
    by_cases hji : j = i
    · subst hji; exact hy.gOp hi hq H
    · have h1 := (H.2 j (ready_mono hj hji)).2
      obtain ⟨hjun, oj, hoj, hall⟩ := mem_ready.1 hj
      have hnot : ∀ e ∈ oj.after, Region.binds md e = true → e.on ≠ i := fun e he hb heq => by
        have h1 := hall e he hb
        rw [heq, getD_both hun] at h1
        cases h1
      have h2 := gOp_put hoj (hfree j oj hoj hji hjun hnot) (fun cs b => hsel i oi cs b hi) (fun cs b => hsel j oj cs b hoj) hy h1
      have hfree' : ∀ k ok, ops[k]? = some ok → k ≠ i → (listed.setIfInBounds j true).getD k true = false →
          (∀ e ∈ ok.after, Region.binds md e = true → e.on ≠ i) → oi.apart ops ok = true := fun k ok hk hki hun hno => by
        refine hfree k ok hk hki ?_ hno
        by_cases hjk : j = k
        · subst hjk; exact hjun
        · rw [getD_set_ne true hjk] at hun; exact hun
      refine gOp_mono hfin (fun b' a' hfin' h3 => ih (listed.setIfInBounds j true) b' a' hfin' (inv.set hj hjn) hfree' (ready_mono hr (Ne.symm hji)) h3.1 ?_) h2
      rw [Array.setIfInBounds_comm _ _ hji]
      exact h3.2

theorem gAny_firstS {n i : Nat} {oi : Oper} {ψ : Sem Next → Value → World → Prop} {L : Array Bool → Fx → Act → Prop} (hi : ops[i]? = some oi) (hq : Ψ i = some ψ) (hsel : ∀ (j : Nat) (o : Oper) cs b, ops[j]? = some o → o.op ≠ .select cs b)
    (hs : Region.sinkB md ops n = true) (hc : Region.chainB md ops n = true) (hn : n < ops.size) (hin : i < n)
    (hdone : ∀ listed b a, L listed b a → ∀ j ∈ Region.ready md ops listed, n ≤ j) :
    ∀ (f : Nat) (listed : Array Bool) (b : Fx) (a : Act), b.fin → HeadInv md ops n listed →
      (∀ j oj, ops[j]? = some oj → j ≠ i → listed.getD j true = false → (∀ e ∈ oj.after, Region.binds md e = true → e.on ≠ i) → oi.apart ops oj = true ∧ (Ψ j).isSome = true) →
      i ∈ Region.ready md ops listed → SpecAt P ops w0 oi ψ a →
      (∀ v, (∃ w, ψ (execOp a.eval oi) v w) → b.free v → gAny P md ops w0 Ψ n L f (listed.setIfInBounds i true) (b.upd (ψ (execOp a.eval oi)) v) (a.put oi.dst v)) → gAny P md ops w0 Ψ n L (f + 1) listed b a := by
  have one : ∀ {b : Fx} {a : Act} {K : Fx → Act → Prop}, SpecAt P ops w0 oi ψ a → (∀ v, (∃ w, ψ (execOp a.eval oi) v w) → b.free v → K (b.upd (ψ (execOp a.eval oi)) v) (a.put oi.dst v)) → gOp P ops w0 Ψ i b K a := by
    intro b a K h1 h2
    unfold gOp
    simp only [hi, hq]
    exact ⟨h1, h2⟩
  intro f
  induction f with
  | zero =>
    intro listed b a hfin inv _ hr hy H
    have hun := (mem_ready.1 hr).1
    refine ⟨fun h => (by rw [h] at hr; cases hr), fun j hj => ?_⟩
    have hjn : j < n := by
      rcases Nat.lt_or_ge j n with h | h
      · exact h
      · exact absurd hj (tail_waits hs hc hn inv _ i rfl hin hun j h)
    refine ⟨hjn, ?_⟩
    by_cases hji : j = i
    · subst hji; exact one hy H
    · obtain ⟨v0, hv0, hf0⟩ := hy.inh hfin
      have := hdone _ _ _ (H v0 hv0 hf0) j (ready_mono hj hji)
      omega
  | succ f ih =>
    intro listed b a hfin inv hfree hr hy H
    have hun := (mem_ready.1 hr).1
    refine ⟨fun h => (by rw [h] at hr; cases hr), fun j hj => ?_⟩
    have hjn : j < n := by
      rcases Nat.lt_or_ge j n with h | h
      · exact h
      · exact absurd hj (tail_waits hs hc hn inv _ i rfl hin hun j h)
    refine ⟨hjn, ?_⟩
    by_cases hji : j = i
    · subst hji; exact one hy H
    · have h1 := fun v hv hf => ((H v hv hf).2 j (ready_mono hj hji)).2
      obtain ⟨hjun, oj, hoj, hall⟩ := mem_ready.1 hj
      have hnot : ∀ e ∈ oj.after, Region.binds md e = true → e.on ≠ i := fun e he hb heq => by
        have h1 := hall e he hb
        rw [heq, getD_both hun] at h1
        cases h1
      obtain ⟨hap, hsp⟩ := hfree j oj hoj hji hjun hnot
      obtain ⟨ψj, hψj⟩ := Option.isSome_iff_exists.1 hsp
      have h2 := gOp_putS hoj hψj hap (fun cs b => hsel i oi cs b hi) (fun cs b => hsel j oj cs b hoj) hfin hy h1
      have hfree' : ∀ k ok, ops[k]? = some ok → k ≠ i → (listed.setIfInBounds j true).getD k true = false →
          (∀ e ∈ ok.after, Region.binds md e = true → e.on ≠ i) → oi.apart ops ok = true ∧ (Ψ k).isSome = true := fun k ok hk hki hun hno => by
        refine hfree k ok hk hki ?_ hno
        by_cases hjk : j = k
        · subst hjk; exact hjun
        · rw [getD_set_ne true hjk] at hun; exact hun
      refine gOp_mono hfin (fun b' a' hfin' h3 => ih (listed.setIfInBounds j true) b' a' hfin' (inv.set hj hjn) hfree' (ready_mono hr (Ne.symm hji)) h3.1 fun v hv hf => ?_) h2
      rw [Array.setIfInBounds_comm _ _ hji]
      exact h3.2 v hv hf

/-- The walk, in an order that is handed in. -/
def wpFacts (P : Program) (ops : Array Oper) (w0 : World) (Ψ : Spec) (Q : Fx → Act → Prop) : List Nat → Fx → Act → Prop
  | [], b, a => Q b a
  | k :: l, b, a => match ops[k]? with
    | none => False
    | some o => match Ψ k with
      | none => ∃ v, LYields P ops w0 o v a ∧ wpFacts P ops w0 Ψ Q l b (a.put o.dst v)
      | some ψ => SpecAt P ops w0 o ψ a ∧ ∀ v, (∃ w, ψ (execOp a.eval o) v w) → b.free v → wpFacts P ops w0 Ψ Q l (b.upd (ψ (execOp a.eval o)) v) (a.put o.dst v)

/-- Nobody that may come before it is quiet. -/
def specB (md : Region.Mode) (ops : Array Oper) (sp : List Nat) (listed : Array Bool) (i : Nat) : Bool :=
  (List.range ops.size).all fun j => j == i || listed.getD j true || match ops[j]? with
    | some oj => oj.after.any (fun e => Region.binds md e && e.on == i) || sp.contains j
    | none => true
theorem specB_spec {sp : List Nat} {i : Nat} {listed : Array Bool} (h : specB md ops sp listed i = true) (j : Nat) (oj : Oper)
    (hj : ops[j]? = some oj) (hne : j ≠ i) (hun : listed.getD j true = false) (hno : ∀ e ∈ oj.after, Region.binds md e = true → e.on ≠ i) : j ∈ sp := by
  simp only [specB, List.all_eq_true, List.mem_range] at h
  have h1 := h j (Array.getElem?_eq_some_iff.1 hj).1
  simp only [hj, Bool.or_eq_true, beq_iff_eq, hne, false_or, hun, Bool.false_eq_true] at h1
  rcases h1 with h1 | h1
  · obtain ⟨e, he, hb⟩ := Array.any_eq_true'.1 h1
    simp only [Bool.and_eq_true, beq_iff_eq] at hb
    exact absurd hb.2 (hno e he hb.1)
  · simpa using h1
def ordB (md : Region.Mode) (ops : Array Oper) (sp : List Nat) (g n : Nat) : List Nat → Array Bool → Bool
  | [], listed => Region.seqB md ops g n listed
  | k :: l, listed => (Region.ready md ops listed).contains k && decide (k < n) && Region.free md ops listed k && (!sp.contains k || specB md ops sp listed k) && ordB md ops sp g n l (listed.setIfInBounds k true)

theorem gAny_ord {n g : Nat} {sp : List Nat} (hsp : ∀ j, j ∈ sp ↔ (Ψ j).isSome = true) {Lq : Fx → Act → Prop} (hsel : Region.noSelect ops = true) (hs : Region.sinkB md ops n = true) (hc : Region.chainB md ops n = true) (hn : n < ops.size) :
    ∀ (l : List Nat) (listed : Array Bool) (b : Fx) (a : Act), b.fin → HeadInv md ops n listed → ordB md ops sp g n l listed = true → wpFacts P ops w0 Ψ Lq l b a →
    gAny P md ops w0 Ψ n (fun listed' b a' => Region.seqB md ops g n listed' = true ∧ Lq b a') l.length listed b a
  | [], listed, b, a, hfin, inv, hB, h => ⟨hB, h⟩
  | k :: l, listed, b, a, hfin, inv, hB, h => by
    simp only [ordB, Bool.and_eq_true, decide_eq_true_eq] at hB
    obtain ⟨⟨⟨⟨hrd, hkn⟩, hf⟩, hsb⟩, hB'⟩ := hB
    have hr' : k ∈ Region.ready md ops listed := by simpa using hrd
    unfold wpFacts at h
    cases h0 : ops[k]? with
    | none => rw [h0] at h; exact h.elim
    | some o =>
      rw [h0] at h
      simp only at h
      cases hq : Ψ k with
      | none =>
        rw [hq] at h
        obtain ⟨v, hy, hK⟩ := h
        exact gAny_first h0 hq (Region.noSelect_spec hsel) hs hc hn hkn (fun listed' _ a' hL => seqB_ready hL.1) l.length listed b a hfin inv (Region.free_spec h0 hf) hr' hy
          (gAny_ord hsp hsel hs hc hn l _ _ _ hfin (inv.set hr' hkn) hB' hK)
      | some ψ =>
        rw [hq] at h
        have hk : k ∈ sp := (hsp k).2 (by rw [hq]; rfl)
        have hsb' : specB md ops sp listed k = true := by
          rw [Bool.or_eq_true] at hsb
          rcases hsb with h | h
          · have : sp.contains k = true := by simpa using hk
            rw [this] at h; cases h
          · exact h
        exact gAny_firstS h0 hq (Region.noSelect_spec hsel) hs hc hn hkn (fun listed' _ a' hL => seqB_ready hL.1) l.length listed b a hfin inv
          (fun j oj h1 h2 h3 h4 => ⟨Region.free_spec h0 hf j oj h1 h2 h3 h4, (hsp j).1 (specB_spec hsb' j oj h1 h2 h3 h4)⟩) hr' h.1
          fun v hv hf => gAny_ord hsp hsel hs hc hn l _ _ _ (Fx.fin_upd hfin _ _) (inv.set hr' hkn) hB' (h.2 v hv hf)

theorem wp_region_facts {id : Nat} {Q : Exit → Act → World → Prop} {a : Act} {w : World} {l : List Oper} (n : Nat) (ord sp : List Nat) (Ψ : Spec) (hΨ : SteadyS Ψ) (hsp : ∀ j, j ∈ sp ↔ (Ψ j).isSome = true) (hm : P.follows .mixedOrders = true)
    (hB : (Region.noSelect l.toArray && decide (n < l.toArray.size) && decide (ord.length = n) && Region.sinkB .any l.toArray n && Region.chainB .any l.toArray n && ordB .any l.toArray sp (l.toArray.size - n) n ord (Array.replicate l.toArray.size false)) = true)
    (h : wpFacts P l.toArray w Ψ (fun b a' => ∀ w', Below w.heap.size w w' → b.1 w' → wpList P l.toArray Q (l.drop n) a' w') ord (fun _ => True, fun _ => False) a) : (Code.region id l.toArray true).wp P Q a w := by
  simp only [Bool.and_eq_true, decide_eq_true_eq] at hB
  obtain ⟨⟨⟨⟨⟨hsel, hn⟩, hol⟩, hs⟩, hc⟩, hlex⟩ := hB
  have hdl : (l.drop n).length = l.toArray.size - n := by simp
  have inv0 : HeadInv .any l.toArray n (Array.replicate l.toArray.size false) :=
    ⟨by simp, fun j oj _ hl => (by rw [getD_replicate_false] at hl; cases hl), fun t _ ht => getD_in (by simpa using ht) (getD_replicate_false _ _)⟩
  have H := gAny_ord (P := P) (w0 := w) (md := .any) (g := l.toArray.size - n) hsp hsel hs hc hn ord _ (fun _ => True, fun _ => False) a ⟨0, fun k (hk : False) => hk.elim⟩ inv0 hlex h
  refine wp_region_any hm ?_
  have := wpAny_of_ghead (md := .any) (Q' := Q) (g := l.toArray.size - n) hΨ (fun listed b a' w' hw' hb hL => by
    obtain ⟨hseq, hq⟩ := hL
    have := wpAny_of_seq (md := .any) (Q' := Q) (l.drop n) n listed a' w' (fun j => by simp [List.getElem?_drop]) (by rw [hdl]; exact hseq) (hq w' hw' hb)
    rwa [hdl] at this) _ _ _ _ w.drew (Below.refl _ _).drew trivial (fun _ _ _ _ => trivial) (fun k (hk : False) => hk.elim) H
  rw [hol, show n + (l.toArray.size - n) = l.toArray.size by omega] at this
  exact this
theorem wpFacts_nil {Q : Fx → Act → Prop} {b : Fx} {a : Act} (h : Q b a) : wpFacts P ops w0 Ψ Q [] b a := h
theorem wpFacts_q {Q : Fx → Act → Prop} {k : Nat} {l : List Nat} {b : Fx} {a : Act} {o : Oper} (ho : ops[k]? = some o) (hq : Ψ k = none)
    (h : ∀ K : Act → Prop, (∀ a, wpFacts P ops w0 Ψ Q l b a → K a) → if Region.wanted o (yielded ops a.tmps) then ∃ v, (∀ s : Later w0, Oper.quietUpon P (fun w'' => Below s.world.heap.size s.world w'') s.world v ((execOp a.eval o).run P s.world)) ∧ K (a.put o.dst v) else K (a.put o.dst undef)) :
    wpFacts P ops w0 Ψ Q (k :: l) b a := by
  have := h _ (fun _ h => h)
  unfold wpFacts
  simp only [ho, hq]
  split at this
  · rename_i hw
    obtain ⟨v, h1, h2⟩ := this
    exact ⟨v, .inl ⟨hw, h1⟩, h2⟩
  · rename_i hw
    exact ⟨undef, .inr ⟨by simpa using hw, rfl⟩, this⟩
theorem wpFacts_s {Q : Fx → Act → Prop} {k : Nat} {l : List Nat} {b : Fx} {a : Act} {o : Oper} {ψ : Sem Next → Value → World → Prop} (ho : ops[k]? = some o) (hq : Ψ k = some ψ) (hw : Region.wanted o (yielded ops a.tmps) = true)
    (hr : ∀ s : Later w0, RunsTo P s.world (ψ (execOp a.eval o)) ((execOp a.eval o).run P s.world)) (h : ∀ v w, ψ (execOp a.eval o) v w → b.free v → wpFacts P ops w0 Ψ Q l (b.upd (ψ (execOp a.eval o)) v) (a.put o.dst v)) : wpFacts P ops w0 Ψ Q (k :: l) b a := by
  unfold wpFacts
  simp only [ho, hq]
  exact ⟨⟨hw, hr⟩, fun v ⟨w, hv⟩ => h v w hv⟩
end
end Go.Proofs.Ytejkhpgahnncnaa
end

section
namespace Go.Proofs.Ytejkhpgahnncnaa
open Go.RowKit
set_option linter.unusedVariables false
set_option linter.unusedSimpArgs false

/-- Cells of new blocks. -/
def SNew (B : Nat) (w : World) (b o : Nat) : Prop := B ≤ b ∧ ∃ v, stay w b o = some v ∧ v.2.2 = (0, 0)
theorem sext_of {S : Nat → Nat → Prop} {w w' : World} (h : ∀ b o, S b o → w'.heap[b]? = w.heap[b]?) : SExt S w S w' := fun b o hs => ⟨hs, stay_heap (h b o hs) o⟩
theorem ones_ints (l : List Int) : Ones (l.map (Value.int .i64)) := by
  intro v hv
  obtain ⟨x, _, rfl⟩ := List.mem_map.1 hv
  rfl
/-- New numbers: the cells that hold them. -/
structure NumsAt (B : Nat) (w : World) (l : List Int) (v : Value) : Prop where
  is : ∃ S : Nat → Nat → Prop, Rep S w [] [] (aIs l) v ∧ ∀ b o, S b o → SNew B w b o ∧ ∃ x, w.cell? ⟨b, o, none⟩ = some (.int .i64 x)
theorem NumsAt.later {B : Nat} {w w' : World} {l : List Int} {v : Value} (h : NumsAt B w l v) (hb : Below w.heap.size w w') : NumsAt B w' l v := by
  obtain ⟨S, h1, h2⟩ := h.is
  have hx : ∀ b o, S b o → w'.heap[b]? = w.heap[b]? := fun b o hs => by
    obtain ⟨⟨_, u, hu, _⟩, _⟩ := h2 b o hs
    exact hb.block b (stay_lt hu)
  refine ⟨S, Rep.mono (sext_of hx) h1 (.refl _ _), fun b o hs => ?_⟩
  obtain ⟨⟨h3, u, hu, hf⟩, x, hc⟩ := h2 b o hs
  exact ⟨⟨h3, u, (stay_heap (hx b o hs) o).trans hu, hf⟩, x, cell_later hb hc⟩

set_option maxRecDepth 100000 in
set_option maxHeartbeats 1000000 in
theorem own_any (w : World) (v : Value) (l : List Int) (hv : Sl rI w v l) (hl : l.length ≤ 1000) : Calls Try.prog 34 #[v] w fun e w' => ∃ u, e = .returned u ∧ Below w.heap.size w w' ∧ w'.ownsRow w.heap.size 3 1 u l.length (l.map (Value.int .i64)) := by
  have hwf : ∀ x ∈ l, (Lit.int .i64 x).wf = true := by
    intro x hx
    obtain ⟨i, hi, rfl⟩ := List.getElem_of_mem hx
    obtain ⟨a, cap, _, h⟩ := ints_view hv
    obtain ⟨b, off, _, _, h1, h2⟩ := h i hi
    rw [Lit.wf, Bool.and_eq_true]
    exact ⟨decide_eq_true h1, decide_eq_true h2⟩
  have harr : Arr w 1 v l.length (l.map (Value.int .i64)) := by
    obtain ⟨a', cap', h1, h2⟩ := ints_view hv
    obtain ⟨a, cap, h0, hp, _⟩ := hv
    obtain rfl : v = .slice a l.length cap := by simpa using h0
    refine ⟨by simp, a, cap, rfl, hp, fun j u hj => ?_⟩
    rw [List.getElem?_map] at hj
    cases hjl : l[j]? with
    | none => rw [hjl] at hj; cases hj
    | some x =>
      rw [hjl] at hj
      obtain rfl := Option.some.inj hj
      obtain ⟨hj', rfl⟩ := List.getElem?_eq_some_iff.1 hjl
      obtain ⟨b, off, h3, h4, _⟩ := h2 j hj'
      obtain ⟨rfl, _, rfl⟩ := Value.slice.inj h1
      exact ⟨b, off, h3, h4⟩
  have HA := Lib.hid harr
  have HW := Lib.hid hwf
  obtain ⟨a, cap, rfl, _⟩ := ints_view hv
  clear hv harr hwf
  obtain ⟨i0, hi, hi0, hi1, hi2⟩ : ∃ i, Try.prog.info? 3 = some i ∧ i.zero = some (.int .i64 0) ∧ i.size = 1 ∧ i.bytes = 8 := info_of (by kernel_rfl)
  go_enter Try.func34, Try.ntmps34
  go_wp2_with (at_builtin; refine wpList_append_arr rfl _ _ 22 rfl w.heap.size 3 i0 _ 1 8 Try.underlying22 hi hi0 hi1 hi2 rfl (by decide) _ 0 [] rfl (World.ownsRow_nil _ _ _ _) _ _ _ rfl HA.out (ones_ints _) ?a1 ?a2 ?a3 ?_)
  case a1 => unfold maxLen; omega
  case a2 => omega
  case a3 => exact Nat.le_refl _
  intro v' w' hown hg
  have HB := Lib.hid (show Below w.heap.size w w' from Below.grown (Below.refl _ _) hg (Nat.le_refl _) (by simp [Value.ownBlock]))
  try rw [Nat.zero_add, List.nil_append] at hown
  have HN := Lib.hid hown
  clear hown hg
  go_wp2_with fail
  go_ret
  exact ⟨_, rfl, HB.out, HN.out⟩
end Go.Proofs.Ytejkhpgahnncnaa
end

section
namespace Go.Proofs.Ytejkhpgahnncnaa
set_option linter.unusedVariables false
theorem ls : (∀ {α β : Type} {f : α → β} {l : List α}, (l.map f).length = l.length) ∧ (∀ {α β : Type} (f : α → β) (l : List α), List.take l.length (List.map f l) = List.map f l) ∧ Program.cellsOf Try.prog 38 = 1 ∧ Program.cellsOf Try.prog 52 = 1 ∧ Program.cellsOf Try.prog 22 = 1 ∧ Program.cellsOf Try.prog 40 = 2 ∧ Program.cellsOf Try.prog 55 = 7 ∧ Program.cellsOf Try.prog 99 = 3 ∧ Program.cellsOf Try.prog 3 = 1 ∧ Program.cellsOf Try.prog 5 = 1 :=
  ⟨List.length_map .., take_map_len, by kernel_rfl, by kernel_rfl, by kernel_rfl, by kernel_rfl, by kernel_rfl, by kernel_rfl, by kernel_rfl, by kernel_rfl⟩
theorem lt : (∀ {α β : Type} (f : α → β) (l : List α), List.take l.length (List.map f l) = List.map f l) ∧ Program.cellsOf Try.prog 38 = 1 ∧ Program.cellsOf Try.prog 52 = 1 ∧ Program.cellsOf Try.prog 22 = 1 ∧ Program.cellsOf Try.prog 40 = 2 ∧ Program.cellsOf Try.prog 55 = 7 ∧ Program.cellsOf Try.prog 99 = 3 ∧ Program.cellsOf Try.prog 3 = 1 ∧ Program.cellsOf Try.prog 5 = 1 :=
  ls.2
theorem cq {ρ : Type} {cont : Tm → Hp → Option ρ} {tm tm' : Tm} {hp hp' : Hp} {r : Option ρ} (h : cont tm' hp' = r) (h1 : tm = tm' := by first | rfl | (simp only [ls] <;> rfl) | (simp only [ls, List.map_append, List.map_cons, List.map_nil, List.append_nil, List.length_set, length_copyL] <;> rfl)) (h2 : hp = hp' := by first | rfl | (simp only [ls] <;> rfl) | (simp only [ls, List.map_append, List.map_cons, List.map_nil, List.append_nil, List.length_set, length_copyL] <;> rfl)) : cont tm hp = r := cont_eq h h1 h2
theorem kq {ρ : Type} {K : Ex → Tm → Hp → Option ρ} {e : Ex} {tm tm' : Tm} {hp hp' : Hp} {r : Option ρ} (h : K e tm' hp' = r) (h1 : tm = tm' := by first | rfl | (simp only [ls] <;> rfl) | (simp only [ls, List.map_append, List.map_cons, List.map_nil, List.append_nil, List.length_set, length_copyL] <;> rfl)) (h2 : hp = hp' := by first | rfl | (simp only [ls] <;> rfl) | (simp only [ls, List.map_append, List.map_cons, List.map_nil, List.append_nil, List.length_set, length_copyL] <;> rfl)) : K e tm hp = r := kont_eq h h1 h2
theorem fq {ρ : Type} {x y z : Option ρ} (h : x = y := by first | rfl | (simp only [length_copyL, List.length_set] <;> rfl) | (simp only [ls] <;> rfl) | ((conv => lhs; arg 1; arg 1; whnf); simp only [dec_self]; rfl)) (h2 : y = z := by first | rfl | (simp only [List.map_take, List.map_drop]; done) | (simp only [List.map_take, List.map_drop] <;> rfl) | (simp only [ls, List.drop_zero, List.length_set, length_copyL] <;> rfl)) : x = z := h.trans h2
theorem c0 : ((0 : Nat) : Int) = 0 := rfl
theorem rq {ρ : Type} {x z : Option ρ} (h : x = z := by first | rfl | (simp only [ls] <;> rfl)) : x = z := h
abbrev iA (x : Int) : AV := .int .i64 x
abbrev bA (x : Bool) : AV := .bool x
theorem sj {α : Type} {a r : α} (h : some a = some r) : a = r := Option.some.inj h
theorem lq {ρ σ τ ν : Type} {body : Tm → Hp → (Ex → Tm → Hp → Option ρ) → Option ρ} {keep : Nat → List Nat} {h0 : Nat} {K : Ex → Tm → Hp → Option ρ} {r : Option ρ} (id : Nat) (tmOf : σ → (Nat → Nat) → Tm) (hpOf : σ → (Nat → Nat) → Hp) (tmX : τ → (Nat → Nat) → Tm) (hpX : τ → (Nat → Nat) → Hp) (encR : ν → ρ) (L : Nat → σ → Option (LR τ ν)) (hL : ∀ s, L 0 s = none) (o : LR τ ν) (n : Nat) (s : σ) (a : Nat → Nat) {tm : Tm} {hp : Hp} (h : L n s = some o)
    (hround : ∀ (k : Nat) (s : σ) (a : Nat → Nat) (K' : Ex → Tm → Hp → Option ρ) (cont : Tm → Hp → Option ρ), (∀ tm hp, K' .ret tm hp = K .ret tm hp) → (∀ s' a', L k s' = some o → cont (tmOf s' a') (hpOf s' a') = r) → L (k + 1) s = some o → LRes K' id tmX hpX encR r o →
      forceL force (fun tm => forceHp (fun hp => body tm hp (fun e tm hp => forceL force (fun tm => forceHp (fun hp => match e with
        | .normal => cont tm hp
        | .exit id => K' (.exit id) tm hp
        | .ret => K' .ret tm hp) (waneHp h0 hp)) (keepTm (keep (exMode e)) h0 hp 0 tm))) (hpOf s a)) (tmOf s a) = r)
    (hx : LRes K id tmX hpX encR r o)
    (h1 : tm = tmOf s a := by first | rfl | (simp only [ls] <;> rfl) | (simp only [ls, List.map_append, List.map_cons, List.map_nil, List.append_nil, List.length_set, length_copyL] <;> rfl)) (h2 : hp = hpOf s a := by first | rfl | (simp only [ls] <;> rfl) | (simp only [ls, List.map_append, List.map_cons, List.map_nil, List.append_nil, List.length_set, length_copyL] <;> rfl)) : rounds body keep h0 n tm hp K = r :=
  rounds_sim id tmOf hpOf tmX hpX encR L hL o hround n s a tm hp h hx h1 h2
theorem lrc {ρ τ ν : Type} {K : Ex → Tm → Hp → Option ρ} {id : Nat} {tmX : τ → (Nat → Nat) → Tm} {hpX : τ → (Nat → Nat) → Hp} {encR : ν → ρ} {r : Option ρ} {o : LR τ ν} (h1 : ∀ v, o = .ret v → r = some (encR v)) (h2 : ∀ t a, o = .out t → K (.exit id) (tmX t a) (hpX t a) = r) : LRes K id tmX hpX encR r o := by
  cases o with
  | out t => exact fun a => h2 t a rfl
  | ret v => exact h1 v rfl
theorem nn {α : Type} {r : α} {P : Prop} : (none : Option α) = some r → P := fun h => by cases h
theorem chk_k {α : Type} {c : Bool} {a : Option α} {r : α} {G : Prop} (h1 : c = true → a = some r → G) : (bif c then a else none) = some r → G := fun h => chk_some2 h h1
theorem br {α ρ : Type} {c : Bool} {a b : Option α} {r : α} {L L1 L2 R : ρ} (k1 : a = some r → L1 = R) (k2 : b = some r → L2 = R) (w1 : c = true → L = L1 := by (intro hc; simp only [hc, ls]; (conv => lhs; whnf); try exact rfl)) (w2 : c = false → L = L2 := by (intro hc; simp only [hc, ls]; (conv => lhs; whnf); try exact rfl)) : (bif c then a else b) = some r → L = R := by
  cases c
  · exact fun h => (w2 rfl).trans (k2 h)
  · exact fun h => (w1 rfl).trans (k1 h)
theorem bf {α ρ : Type} {c : Bool} {b : Option α} {r : α} {L L2 R : ρ} (k2 : b = some r → L2 = R) (w2 : c = false → L = L2 := by (intro hc; simp only [hc, ls]; (conv => lhs; whnf); try exact rfl)) : (bif c then none else b) = some r → L = R := by
  cases c
  · exact fun h => (w2 rfl).trans (k2 h)
  · exact fun h => nn h
theorem cp {α ρ : Type} {c : Bool} {a : Option α} {r : α} {L L1 R : ρ} (k1 : a = some r → L1 = R) (w1 : c = true → ∀ q, L1 = q → L = q := by (intro hc q hq; refine bif_pos hc ?_; (try simp only [ls]); (conv => lhs; whnf); exact hq)) : (bif c then a else none) = some r → L = R := chk_k fun hc h => w1 hc _ (k1 h)
theorem cn {α ρ : Type} {c : Bool} {a : Option α} {r : α} {L L1 R : ρ} (k1 : a = some r → L1 = R) (w1 : c = true → ∀ q, L1 = q → L = q := by (intro hc q hq; refine bif_pos (app_nil hc (by simp only [List.length_map, take_map_len]) (by kernel_rfl)) ?_; (try simp only [ls]); (conv => lhs; whnf); exact hq)) : (bif c then a else none) = some r → L = R := chk_k fun hc h => w1 hc _ (k1 h)
theorem sl {α : Type} (f : α → List AV) (l : List α) (i j : Nat) : List.drop i (List.take j (List.map f l)) = List.map f (List.drop i (List.take j l)) := by rw [List.map_drop, List.map_take]
theorem cs {α ρ : Type} {c : Bool} {a : Option α} {r : α} {E : Prop} {L L1 R : ρ} (e : E) (k1 : a = some r → L1 = R) (w1 : c = true → E → ∀ q, L1 = q → L = q := by (intro hc he q hq; (try simp only [ls]); refine bif_pos hc ?_; simp only [he, ls]; (conv => lhs; whnf); exact hq)) : (bif c then a else none) = some r → L = R := chk_k fun hc h => w1 hc e _ (k1 h)
theorem ix {α β ρ : Type} {l : List α} {i : Int} {g : α → Option β} {r : β} {L : ρ} {L1 : α → ρ} {R : ρ} (k : ∀ x, g x = some r → L1 x = R) (w : ∀ x, idx l i = some x → ∀ q, L1 x = q → L = q := by (intro x hx q hq; refine bif_pos (by first | exact idx_in hx | exact idx_in' hx | (have z := idx_in hx; simp only [ls] at z ⊢; exact z)) ?_; simp only [idx_nth hx, ls]; (conv => lhs; whnf); exact hq)) : (idx l i).bind g = some r → L = R := fun h => bind_some2 h fun x hx h2 => w x hx _ (k x h2)
theorem ca {α β ρ : Type} {P : Program} {H : Hints} {X : Ext} {call : CallT} {n : Nat} {m : Option α} {g : α → Option β} {r : β} {f : FuncId} {a : List AV} {p : Hp} {v : α → Option (AV × Hp)} {L : ρ} {L1 : α → ρ} {R : ρ} (hc : ∀ g l h, call false g l h = callN P H X n g l h) (hk : ∀ y, m = some y → callN P H X n f a p = v y) (k : ∀ y, g y = some r → L1 y = R) (w : ∀ y, call false f a p = v y → L = L1 y := by (intro y hk; (first | simp only [hk] | rewrite [hk] | (simp only [ls]; simp only [hk])); (conv => lhs; whnf); try exact rfl)) : m.bind g = some r → L = R := fun h => bind_some2 h fun y hy h2 => (w y ((hc _ _ _).trans (hk y hy))).trans (k y h2)
theorem cr {α β ρ : Type} {P : Program} {H : Hints} {X : Ext} {call : CallT} {n : Nat} {m : Option α} {g : α → Option β} {r : β} {f : FuncId} {a : List AV} {p : Hp} {v : α → Option (AV × Hp)} {L : ρ} {L1 : α → ρ} {R : ρ} (hc : ∀ g l h, call false g l h = callN P H X n g l h) (hk : ∀ y, m = some y → callN P H X n f a p = v y) (k : ∀ y, g y = some r → L1 y = R) (w : ∀ y, call false f a p = v y → L = L1 y := by (intro y hk; (try simp only [List.length_nil, List.map_nil] at hk); (try simp only [List.length_nil, List.map_nil]); (first | ((try simp only [ls]); simp only [hk]) | ((try simp only [List.drop_zero] at hk); (try simp only [List.drop_zero, ls]); simp only [hk]) | simp only [hk] | rewrite [hk]); (try simp only [ls]); (conv => lhs; whnf); try exact rfl)) : m.bind g = some r → L = R := ca hc hk k w
theorem ap {α : Type} (f : α → List AV) (a : List (List AV)) (l : List α) (y : List (List AV)) (m : List α) (ha : a = List.map f l := by rfl) (hy : y = List.map f m := by rfl) : a ++ y = List.map f (l ++ m) ∧ a.length + y.length = (l ++ m).length ∧ l.length + y.length = (l ++ m).length ∧ l.length + m.length = (l ++ m).length ∧ a.length + m.length = (l ++ m).length := by
  subst ha; subst hy; simp
theorem ar {α ρ : Type} {c : Bool} {a : Option α} {r : α} {E : Prop} {L L1 R : ρ} (e : E) (k1 : a = some r → L1 = R) (w1 : c = true → E → ∀ q, L1 = q → L = q := by (intro hc he q hq; (first | refine bif_pos (app_row hc (by first | rfl | simp only [List.length_map]) (by first | rfl | simp only [List.length_map]) (by first | rfl | simp only [List.length_map, take_map_len]) (by kernel_rfl)) ?_ | refine bif_pos (app_row2 hc (by first | rfl | simp only [List.length_map]) (by first | rfl | simp only [List.length_map, take_map_len]) (by kernel_rfl)) ?_ | skip); (try simp only [lt]); (try simp only [he]); (try simp only [ls, c0]); (try simp only [he]); (try simp only [ls]); (conv => lhs; whnf); exact hq)) : (bif c then a else none) = some r → L = R := chk_k fun hc h => w1 hc e _ (k1 h)
theorem rz {α ρ : Type} {a r : α} {L R : ρ} (k : a = r → L = R := by (intro e; cases e; first | rfl | (simp only [ls] <;> rfl))) : some a = some r → L = R := fun h => k (sj h)
end Go.Proofs.Ytejkhpgahnncnaa
end

section
namespace Go.Proofs.Ytejkhpgahnncnaa
set_option linter.unusedVariables false
set_option linter.unusedSimpArgs false
set_option maxRecDepth 100000
set_option maxHeartbeats 4000000

noncomputable abbrev CN := callN Try.prog HH XT
def ref07_Ints_L0 (n:Nat)  (v0_a:(List Int)) (v1_b:(List Int)):Nat→Int→Option (LR Unit Bool)
  | 0,_=>none
  | k3+1,s2=>(bif decide (s2<((v0_a.length:Nat):Int)) then ((idx v0_a s2).bind fun x12=>((idx v1_b s2).bind fun x13=>(bif (x12 != x13) then (some (.ret false)) else (ref07_Ints_L0 n v0_a v1_b k3 (IntKind.i64.wrap (s2+1)))))) else (some (.out ())))
def m_ref07_Ints:Nat→(List Int)→(List Int)→Option Bool
  | 0,_,_=>none
  | n+1,v0_a,v1_b=>(bif (((v0_a.length:Nat):Int) != ((v1_b.length:Nat):Int)) then (some false) else ((ref07_Ints_L0 n v0_a v1_b n 0).bind fun o10=>match o10 with|.out _=>(some true)|.ret v=>some v))

def ref08_Same_L0 (n:Nat)  (v0_a:(List EntryS)) (v1_b:(List EntryS)):Nat→Int→Option (LR Unit Bool)
  | 0,_=>none
  | k3+1,s2=>(bif decide (s2<((v0_a.length:Nat):Int)) then ((idx v0_a s2).bind fun x12=>((idx v1_b s2).bind fun x13=>(bif ((x12.loc==x13.loc)&&((x12.n==x13.n)&&true)) then (ref08_Same_L0 n v0_a v1_b k3 (IntKind.i64.wrap (s2+1))) else (some (.ret false))))) else (some (.out ())))
def m_ref08_Same:Nat→(List EntryS)→(List EntryS)→Option Bool
  | 0,_,_=>none
  | n+1,v0_a,v1_b=>(bif (((v0_a.length:Nat):Int) != ((v1_b.length:Nat):Int)) then (some false) else ((ref08_Same_L0 n v0_a v1_b n 0).bind fun o10=>match o10 with|.out _=>(some true)|.ret v=>some v))

def ref09_Same_L0 (n:Nat)  (v0_a:ConfS) (v1_b:ConfS):Nat→Int→Option (LR Unit Bool)
  | 0,_=>none
  | k10+1,s9=>(bif decide (s9<(((v0_a.regs).length:Nat):Int)) then ((idx v0_a.regs s9).bind fun x19=>((idx v1_b.regs s9).bind fun x20=>((m_ref07_Ints n x19 x20).bind fun y21=>(bif y21 then (ref09_Same_L0 n v0_a v1_b k10 (IntKind.i64.wrap (s9+1))) else (some (.ret false)))))) else (some (.out ())))
def ref09_Same_L1 (n:Nat)  (v0_a:ConfS) (v1_b:ConfS):Nat→Int→Option (LR Unit Bool)
  | 0,_=>none
  | k26+1,s25=>(bif decide (s25<(((v0_a.buf).length:Nat):Int)) then ((idx v0_a.buf s25).bind fun x35=>((idx v1_b.buf s25).bind fun x36=>((m_ref08_Same n x35 x36).bind fun y37=>(bif y37 then (ref09_Same_L1 n v0_a v1_b k26 (IntKind.i64.wrap (s25+1))) else (some (.ret false)))))) else (some (.out ())))
def m_ref09_Same:Nat→ConfS→ConfS→Option Bool
  | 0,_,_=>none
  | n+1,v0_a,v1_b=>((m_ref07_Ints n v0_a.pc v1_b.pc).bind fun y1=>(bif y1 then ((m_ref07_Ints n v0_a.mem v1_b.mem).bind fun y4=>(bif y4 then (bif ((((v0_a.regs).length:Nat):Int) != (((v1_b.regs).length:Nat):Int)) then (some false) else (bif ((((v0_a.buf).length:Nat):Int) != (((v1_b.buf).length:Nat):Int)) then (some false) else ((ref09_Same_L0 n v0_a v1_b n 0).bind fun o17=>match o17 with|.out _=>((ref09_Same_L1 n v0_a v1_b n 0).bind fun o33=>match o33 with|.out _=>(some true)|.ret v=>some v)|.ret v=>some v))) else (some false))) else (some false)))

def ref09_Start_L0 (n:Nat)  (v0_u:UnitS):Nat→Int→(List Int)→(List (List Int))→(List (List EntryS))→Option (LR ((List Int)×(List (List Int))×(List (List EntryS))) (ConfS×Int))
  | 0,_,_,_,_=>none
  | k8+1,s4,s5,s6,s7=>(bif decide (s4<(((v0_u.regs).length:Nat):Int)) then (bif decide ((s5.length+1) * 9≤140737488355328) then ((idx v0_u.regs s4).bind fun x19=>(bif (decide (0≤x19)&&decide ((8:Int) * x19≤140737488355328)) then (bif decide ((s6.length+1) * 25≤140737488355328) then (bif decide ((s7.length+1) * 25≤140737488355328) then (ref09_Start_L0 n v0_u k8 (IntKind.i64.wrap (s4+1)) (s5++([0]:List Int)) (s6++([(List.replicate x19.toNat 0:List Int)]:List (List Int))) (s7++([([]:List EntryS)]:List (List EntryS)))) else none) else none) else none)) else none) else (some (.out (s5,s6,s7))))
def m_ref09_Start:Nat→UnitS→Option (ConfS×Int)
  | 0,_=>none
  | n+1,v0_u=>((m_ref07_Right n v0_u).bind fun y1=>(bif y1 then ((ref09_Start_L0 n v0_u n 0 ([]:List Int) ([]:List (List Int)) ([]:List (List EntryS))).bind fun o15=>match o15 with|.out (x27,x28,x29)=>(bif decide (((([]:List Int)).length+(v0_u.init).length) * 9≤140737488355328) then (some ((⟨x27,x28,(([]:List Int)++v0_u.init),x29⟩:ConfS),0)) else none)|.ret v=>some v) else (some ((⟨([]:List Int),([]:List (List Int)),([]:List Int),([]:List (List EntryS))⟩:ConfS),8))))

def m_conf_own_int:Nat→(List Int)→Option (List Int)
  | 0,_=>none
  | n+1,v0_l=>(bif decide (v0_l.length * 9≤140737488355328) then (bif decide (v0_l.length=0) then (some ([]:List Int)) else (some v0_l)) else none)

def conf_Start_L0 (n:Nat)  (v0_u:UnitS):Nat→Int→(List (List Int))→Option (LR (List (List Int)) (ConfS×Int))
  | 0,_,_=>none
  | k12+1,s10,s11=>(bif decide (s10<(((v0_u.regs).length:Nat):Int)) then ((idx v0_u.regs s10).bind fun x21=>(bif (decide (0≤x21)&&decide ((8:Int) * x21≤140737488355328)) then (bif decide ((s11.length+1) * 25≤140737488355328) then (conf_Start_L0 n v0_u k12 (IntKind.i64.wrap (s10+1)) (s11++([(List.replicate x21.toNat 0:List Int)]:List (List Int)))) else none) else none)) else (some (.out s11)))
def m_conf_Start:Nat→UnitS→Option (ConfS×Int)
  | 0,_=>none
  | n+1,v0_u=>((m_lower_Right n v0_u).bind fun y1=>(bif y1 then (bif (decide (0≤(((v0_u.regs).length:Nat):Int))&&decide ((8:Int) * ((((v0_u.regs).length:Nat):Int))≤140737488355328)) then ((m_conf_own_int n v0_u.init).bind fun y6=>(bif (decide (0≤(((v0_u.regs).length:Nat):Int))&&decide ((24:Int) * ((((v0_u.regs).length:Nat):Int))≤140737488355328)) then ((conf_Start_L0 n v0_u n 0 ([]:List (List Int))).bind fun o19=>match o19 with|.out x27=>(some ((⟨(List.replicate ((((v0_u.regs).length:Nat):Int)).toNat 0:List Int),x27,y6,(List.replicate ((((v0_u.regs).length:Nat):Int)).toNat ([]:List EntryS):List (List EntryS))⟩:ConfS),0))|.ret v=>some v) else none)) else none) else (some ((⟨([]:List Int),([]:List (List Int)),([]:List Int),([]:List (List EntryS))⟩:ConfS),8))))

end Go.Proofs.Ytejkhpgahnncnaa
end

section
namespace Go.Proofs.Ytejkhpgahnncnaa
set_option linter.unusedVariables false
set_option linter.unusedSimpArgs false

theorem idx_get {α : Type} {l : List α} {i : Nat} (h : i < l.length) : idx l (i : Int) = some l[i] := by rw [idx_nat, List.getElem?_eq_getElem h]
theorem wrap_one (k : Nat) (h : k < 4611686018427387904) : IntKind.i64.wrap ((k : Int) + 1) = ((k + 1 : Nat) : Int) := wrap_succ k (by omega)
theorem range_step {p : Nat → Bool} {i n : Nat} : (List.range' i (n + 1)).all p = (p i && (List.range' (i + 1) n).all p) := by
  rw [List.range'_succ, List.all_cons]
/-- A loop that looks for something that is not so. -/
theorem all_loop {L : Nat → Int → Option (LR Unit Bool)} (len : Nat) (p : Nat → Bool) (h1 : ∀ k i, i < len → L (k + 1) (i : Int) = bif p i then L k ((i + 1 : Nat) : Int) else some (.ret false)) (h2 : ∀ k, L (k + 1) (len : Int) = some (.out ())) : ∀ (m k i : Nat), i + m = len → m < k → L k (i : Int) = some (bif (List.range' i m).all p then .out () else .ret false) := by
  intro m
  induction m with
  | zero =>
    intro k i hi hk
    obtain ⟨k, rfl⟩ : ∃ j, k = j + 1 := ⟨k - 1, by omega⟩
    have : i = len := by omega
    subst this
    rw [h2]; rfl
  | succ m ih =>
    intro k i hi hk
    obtain ⟨k, rfl⟩ : ∃ j, k = j + 1 := ⟨k - 1, by omega⟩
    rw [h1 k i (by omega), range_step, ih k (i + 1) (by omega) (by omega)]
    cases p i <;> rfl
theorem all_loop0 {L : Nat → Int → Option (LR Unit Bool)} (len : Nat) (p : Nat → Bool) (h1 : ∀ k i, i < len → L (k + 1) (i : Int) = bif p i then L k ((i + 1 : Nat) : Int) else some (.ret false)) (h2 : ∀ k, L (k + 1) (len : Int) = some (.out ())) {k : Nat} (hk : len < k) : L k 0 = some (bif (List.range' 0 len).all p then .out () else .ret false) :=
  all_loop len p h1 h2 len k 0 (by omega) hk
theorem all_range_true {p : Nat → Bool} {m : Nat} (h : ∀ i, i < m → p i = true) : (List.range' 0 m).all p = true := by
  rw [List.all_eq_true]; intro i hi; exact h i (by simpa using hi)
theorem of_all_range {p : Nat → Bool} {m : Nat} (h : (List.range' 0 m).all p = true) {i : Nat} (hi : i < m) : p i = true := by
  rw [List.all_eq_true] at h; exact h i (by simpa using hi)
theorem bif_decide {α : Type} {p : Prop} [Decidable p] (h : p) (a b : α) : (bif decide p then a else b) = a := by rw [decide_eq_true h]; rfl
theorem bif_not {α : Type} {p : Prop} [Decidable p] (h : ¬ p) (a b : α) : (bif decide p then a else b) = b := by rw [decide_eq_false h]; rfl
theorem natEq (a b : Nat) : ((a : Int) == (b : Int)) = (a == b) := by
  by_cases h : a = b
  · subst h; simp
  · have : ¬ (a : Int) = (b : Int) := by omega
    rw [beq_eq_false_iff_ne.2 h, beq_eq_false_iff_ne.2 this]
theorem natNe (a b : Nat) : ((a : Int) != (b : Int)) = !(a == b) := by rw [← natEq]; rfl
end Go.Proofs.Ytejkhpgahnncnaa
end

section
namespace Go.Proofs.Ytejkhpgahnncnaa
set_option linter.unusedVariables false
set_option linter.unusedSimpArgs false

/-- A configuration whose lists are short. -/
structure LightC (c : ConfS) : Prop where
  pc : c.pc.length ≤ 8
  mem : c.mem.length ≤ 20
  regsN : c.regs.length ≤ 8
  bufN : c.buf.length ≤ 8
  regs : ∀ i (h : i < c.regs.length), c.regs[i].length ≤ 20
  buf : ∀ i (h : i < c.buf.length), c.buf[i].length ≤ 300
theorem rightU_len {u : UnitS} (h : rightU u = true) : u.code.length = u.regs.length ∧ 1 ≤ u.regs.length ∧ u.regs.length ≤ 4 ∧ u.init.length ≤ 6 := by
  simp only [rightU, headOk, Bool.and_eq_true, decide_eq_true_eq] at h
  omega
/-- Where a unit begins. -/
def startC (u : UnitS) : ConfS := ⟨List.replicate u.regs.length 0, u.regs.map fun r => List.replicate r.toNat 0, u.init, List.replicate u.regs.length []⟩
theorem own_m (n : Nat) (l : List Int) (h : l.length ≤ 1000000) : m_conf_own_int (n + 1) l = some l := by
  simp only [m_conf_own_int, bif_decide (show l.length * 9 ≤ 140737488355328 by omega)]
  cases l with
  | nil => rfl
  | cons a l => rfl
theorem rightU_thread {u : UnitS} (h : rightU u = true) (i : Nat) (hi : i < u.regs.length) (hc : i < u.code.length) : (0 ≤ u.regs[i] ∧ u.regs[i] ≤ 6) ∧ rowOk u.code[i] u.regs[i] u.init.length = true := by
  simp only [rightU, Bool.and_eq_true, List.all_eq_true] at h
  have := h.2 i (by simpa using hi)
  rw [threadOk_of hi hc, Bool.and_eq_true, decide_eq_true_eq] at this
  exact this
theorem start_L (n : Nat) (u : UnitS) (hr : ∀ i (h : i < u.regs.length), 0 ≤ u.regs[i] ∧ u.regs[i] ≤ 6) (hN : u.regs.length ≤ 4) : ∀ (m k i : Nat) (acc : List (List Int)), i + m = u.regs.length → m < k → acc.length = i → conf_Start_L0 n u k (i : Int) acc = some (.out (acc ++ (u.regs.drop i).map fun r => List.replicate r.toNat 0)) := by
  intro m
  induction m with
  | zero =>
    intro k i acc hi hk ha
    obtain ⟨k, rfl⟩ : ∃ j, k = j + 1 := ⟨k - 1, by omega⟩
    have hd : u.regs.drop i = [] := List.drop_of_length_le (by omega)
    have hge : ¬ ((i : Int) < (u.regs.length : Int)) := by omega
    rw [conf_Start_L0, bif_not hge, hd]
    simp
  | succ m ih =>
    intro k i acc hi hk ha
    obtain ⟨k, rfl⟩ : ∃ j, k = j + 1 := ⟨k - 1, by omega⟩
    have hlt : i < u.regs.length := by omega
    have hlt' : (i : Int) < (u.regs.length : Int) := by omega
    have hx := hr i hlt
    have c1 : (decide (0 ≤ u.regs[i]) && decide ((8 : Int) * u.regs[i] ≤ 140737488355328)) = true := by
      rw [decide_eq_true hx.1, decide_eq_true (by omega)]; rfl
    have c2 : (acc.length + 1) * 25 ≤ 140737488355328 := by omega
    rw [conf_Start_L0, bif_decide hlt', idx_get hlt, List.drop_eq_getElem_cons hlt]
    have w1 := wrap_one i (by omega)
    simp only [Option.bind_some, c1, cond_true, bif_decide c2, w1]
    rw [ih k (i + 1) _ (by omega) (by omega) (by simp [ha])]
    simp only [List.map_cons, List.append_assoc, List.cons_append, List.nil_append]
theorem start_m (n : Nat) (u : UnitS) (h : rightU u = true) (hn : 20 < n) : m_conf_Start n u = some (startC u, 0) := by
  obtain ⟨n, rfl⟩ : ∃ j, n = j + 2 := ⟨n - 2, by omega⟩
  obtain ⟨u1, u2, u3, u4⟩ := rightU_len h
  have hr : ∀ i (h : i < u.regs.length), 0 ≤ u.regs[i] ∧ u.regs[i] ≤ 6 := fun i hi => (rightU_thread h i hi (by omega)).1
  have c1 : (decide (0 ≤ (u.regs.length : Int)) && decide ((8 : Int) * (u.regs.length : Int) ≤ 140737488355328)) = true := by
    rw [decide_eq_true (by omega), decide_eq_true (by omega)]; rfl
  have c2 : (decide (0 ≤ (u.regs.length : Int)) && decide ((24 : Int) * (u.regs.length : Int) ≤ 140737488355328)) = true := by
    rw [decide_eq_true (by omega), decide_eq_true (by omega)]; rfl
  have hL := start_L (n + 1) u hr u3 u.regs.length (n + 1) 0 [] (by omega) (by omega) rfl
  have hL : conf_Start_L0 (n + 1) u (n + 1) 0 [] = _ := hL
  simp only [m_conf_Start, m_lower_Right, h, Option.bind_some, cond_true, c1, c2, own_m n u.init (by omega), hL]
  simp [startC]
end Go.Proofs.Ytejkhpgahnncnaa
end

section
namespace Go.Proofs.Ytejkhpgahnncnaa
open Go.RowKit
set_option linter.unusedVariables false
set_option linter.unusedSimpArgs false

theorem reps_at3 {S : Nat → Nat → Prop} {w : World} {hp : Hp} {φ : List Pl} {i j k n : Nat} {a b c : AV} {u v x : Value} {L : List Value} (ha : Rep S w hp φ a u) (hb : Rep S w hp φ b v) (hc : Rep S w hp φ c x) (hi : L[i]? = some u) (hj : L[j]? = some v) (hk : L[k]? = some x) (hn : L.length = n) : Reps S w hp φ ((((List.replicate n AV.junk).set i a).set j b).set k c) L := by
  have := (reps_at2 ha hb hi hj hn).set k hc
  rwa [set_self hk] at this
def startV (n ni : Nat) : AV := .tup [.agg [.sl 1 (List.replicate n [.int .i64 0]), .row 4 n, .own 3 0 ni, .sl 1 (List.replicate n [.sl 2 []])], .int .i64 0]
def startCells (n ni : Nat) : List AV := [.sl 1 (List.replicate n [.int .i64 0]), .row 4 n, .own 3 0 ni, .sl 1 (List.replicate n [.sl 2 []])]
def startHp (tU tC tR : TypeId) (mod : Int) (n ni : Nat) (l init : List Int) : Hp := [.var tU [.int .i64 mod, .junk, .sl 1 (l.map encI), .junk], .var tC (startCells n ni), .var tC (startCells n ni), .arr 1 (init.map encI), .row tR 1 (l.map fun r : Int => [AV.sl 1 (List.replicate r.toNat [.int .i64 0])])]
/-- The rest of a function's code, by the interpreter: what it hands back, with its objects. -/
theorem tail_fn {P : Program} {H : Hints} {call : CallT} {f : FuncId} {fuel base : Nat} (hm : P.follows .mixedOrders = true) (hH : GoodH P H) (hc : SoundCall P H call) {c1 c2 c3 : Code} (hd1 : drawsC H f c1 = true) (hd2 : drawsC H f c2 = true) (hd3 : drawsC H f c3 = true)
    {S : Nat → Nat → Prop} {W : World} {hp : Hp} {φ : List Pl} {tm : Tm} {A : Act} (hs : Sim P base S W hp φ) (ht : Reps S W hp φ tm A.tmps.toList) (hdef : A.defers = []) {fn : Func} {v : AV} {hp' : Hp}
    (h : runC P H call f fuel hp.length c1 tm hp (fun e tm hp1 => match e with
      | .normal => runC P H call f fuel hp.length c2 tm hp1 (fun e tm hp2 => match e with
        | .normal => runC P H call f fuel hp.length c3 tm hp2 (fun e tm hp2 => match e with
          | .exit _ => none
          | _ => resV P fn tm hp2 fun v => some (v, hp2))
        | _ => none)
      | _ => none) = some (v, hp'))
    {R : Ending → World → Prop} (hR : ∀ u S' w' φ', Rep S' w' hp' φ' v u → Sim P base S' w' hp' φ' → Trans base S W hp φ S' w' hp' φ' → R (.returned u) w')
    {K K1 : Act → World → Prop} (hK : ∀ a w, c2.wp P (Exit.then K1 (bodyPost P fn R)) a w → K a w) (hK1 : ∀ a w, c3.wp P (bodyPost P fn R) a w → K1 a w) : c1.wp P (Exit.then K (Exit.then K1 (bodyPost P fn R))) A W := by
  refine runC_sound hm hH hc hs c1 hd1 (.refl _ _ _ _ _) hs ht h ?_
  intro e tm' hp1 S' φ' a' w' g1 g2 g3 g4 g5
  cases e with
  | exit id => cases g1
  | ret => cases g1
  | normal =>
    refine hK _ _ (runC_sound hm hH hc hs c2 hd2 g4 g3 g2 g1 ?_)
    intro e tm' hp1 S' φ' a1 w1 g1 g2 g3 g4 g5'
    have g5 := g5'.trans g5
    clear g5'
    cases e with
    | exit id => cases g1
    | ret => cases g1
    | normal =>
      refine hK1 _ _ (runC_sound hm hH hc hs c3 hd3 g4 g3 g2 g1 ?_)
      intro e tm'' hp2 S'' φ'' a'' w'' k1 k2 k3 k4 k5
      have fin : resV P fn tm'' hp2 (fun v => some (v, hp2)) = some (v, hp') → a''.defers = [] ∧ ∃ u, (results fn a''.tmps).run P w'' = .ok u w'' ∧ R (.returned u) w'' := by
        intro hres
        refine ⟨k5.trans (g5.trans hdef), ?_⟩
        obtain ⟨avs, us, r1, r2, r3⟩ := resL_sound k3 k2 fn.results.toList _ hres
        have fin2 : ∀ (x : AV) (u : Value), Rep S'' w'' hp2 φ'' x u → (results fn a''.tmps).run P w'' = .ok u w'' → (some (x, hp2) : Option (AV × Hp)) = some (v, hp') → ∃ u, (results fn a''.tmps).run P w'' = .ok u w'' ∧ R (.returned u) w'' := by
          intro x u hx hrun he
          cases he
          exact ⟨u, hrun, hR u _ _ _ hx k3 k4⟩
        have hrun := run_results r2
        clear r2
        match avs, us, r1, r3, hrun with
        | [], [], r1, r3, hrun => exact fin2 _ _ (.tup _ _ _ _ (normArgs_rep r3)) hrun r1
        | [x], [u], r1, r3, hrun => cases r3 with | cons _ _ _ _ _ _ hx _ => exact fin2 _ _ (norm_rep hx) hrun r1
        | x :: y :: l, u :: u2 :: us, r1, r3, hrun => exact fin2 _ _ (.tup _ _ _ _ (normArgs_rep r3)) hrun r1
      cases e with
      | exit id => cases k1
      | normal => exact fin k1
      | ret => exact fin k1

/-- The cells of the memory as it was, and of two new blocks. -/
def startS (S0 : Nat → Nat → Prop) (n B1 B3 : Nat) (b o : Nat) : Prop := S0 b o ∨ ((b = B1 ∨ b = B3) ∧ o < n)
/-- A unit's beginning, whose memory cells are one's own. -/
structure StartIs (w : World) (u : UnitS) (S0 : Nat → Nat → Prop) (w' : World) (vp vr vb : Value) (g cap : Nat) (S : Nat → Nat → Prop) : Prop where
  pc : Rep S w' [] [] (.sl 1 ((startC u).pc.map encI)) vp
  regs : Rep S w' [] [] (.sl 1 ((startC u).regs.map encRow)) vr
  buf : Rep S w' [] [] (.sl 1 ((startC u).buf.map encBuf)) vb
  one : vp.oneCell' = true ∧ vr.oneCell' = true ∧ vb.oneCell' = true
  stays : ∀ b o, S b o → ∃ v, stay w' b o = some v ∧ (w.heap.size ≤ b → v.2.2 = (0, 0))
  new : ∀ b o, S b o → S0 b o ∨ w.heap.size ≤ b
  not : ∀ o, ¬ S g o
  low : w.heap.size ≤ g
  cap : u.init.length ≤ cap ∧ cap ≤ maxLen
  mem : ∃ ex E, Fresh w' g (.cells (u.init.map (Value.int .i64) ++ ex).toArray E)
  wf : ∀ x ∈ u.init, (Lit.int .i64 x).wf = true
def StartAt (w : World) (u : UnitS) (S0 : Nat → Nat → Prop) (e : Ending) (w' : World) : Prop := ∃ vp vr vb g cap S, e = .returned (.tuple #[.agg #[vp, vr, .slice (some ⟨g, 0, none⟩) u.init.length cap, vb], .int .i64 0]) ∧ StartIs w u S0 w' vp vr vb g cap S
theorem repss_ints {S : Nat → Nat → Prop} {w : World} : ∀ {l : List Int} {vss : List (List Value)}, Repss S w (l.map encI) vss → vss.flatten = l.map (Value.int .i64) ∧ ∀ x ∈ l, (Lit.int .i64 x).wf = true
  | [], _, h => by cases h; exact ⟨rfl, by simp⟩
  | x :: l, _, h => by
    cases h with
    | cons _ vs _ vss h1 _ ht =>
      cases h1 with
      | cons _ _ _ v _ vs hv hn =>
        cases hn
        obtain ⟨rfl, hw⟩ := hv.int_inv
        obtain ⟨e1, e2⟩ := repss_ints ht
        refine ⟨by simp [e1], fun y hy => ?_⟩
        rcases List.mem_cons.1 hy with rfl | hy
        · exact hw
        · exact e2 y hy
theorem row_closed {S : Nat → Nat → Prop} {w : World} {hp : Hp} {φ : List Pl} {id n size : Nat} {e : TypeId} {els : List (List AV)} {v : Value} (h : Rep S w hp φ (.row id n) v) (ho : nth? hp id = some (.row e size els)) : Rep S w [] [] (.sl size (els.take n)) v ∧ v.oneCell' = true := by
  have h1 := close1_rep (a' := .sl size (els.take n)) h (by simp only [close1, ho])
  exact ⟨h1, h1.oneCell rfl⟩
theorem start_fin {P : Program} {w W w' : World} {S0 S S' : Nat → Nat → Prop} {hp0 : Hp} {φ0 φ' : List Pl} {tU tC tR : TypeId} {mod : Int} {n ni : Nat} {l : List Int} {u : UnitS} {x : Value} {g : Nat} (hS1 : ∀ b o, S b o → S0 b o ∨ w.heap.size ≤ b) (hl : u.regs = l) (hn : l.length = n) (hni : u.init.length = ni) (hpos : 0 < ni) (hφ : φ0[3]? = some (.ofs g 0))
    (h1 : Rep S' w' (startHp tU tC tR mod n ni l u.init) φ' (startV n ni) x) (h2 : Sim P w.heap.size S' w' (startHp tU tC tR mod n ni l u.init) φ') (h3 : Trans w.heap.size S W hp0 φ0 S' w' (startHp tU tC tR mod n ni l u.init) φ') (hb : Below w.heap.size w W) (hg : w.heap.size ≤ g) : Below w.heap.size w w' ∧ StartAt w u S0 (.returned x) w' := by
  refine ⟨hb.trans h3.below, ?_⟩
  obtain ⟨vs, r, rfl⟩ := h1.tup_inv
  cases r with
  | cons _ _ _ v0 _ vs r0 r =>
  cases r with
  | cons _ _ _ v1 _ vs r1 r =>
  cases r
  obtain ⟨rfl, _⟩ := r1.int_inv
  obtain ⟨cs, r, _, rfl⟩ := r0.agg_inv
  cases r with
  | cons _ _ _ vp _ cs rp r =>
  cases r with
  | cons _ _ _ vr _ cs rr r =>
  cases r with
  | cons _ _ _ vm _ cs rm r =>
  cases r with
  | cons _ _ _ vb _ cs rb r =>
  cases r
  obtain ⟨b, size, els, cap, ad, o0, k1, k2, k3, k4, k5, rfl⟩ := rm.own_inv
  obtain ⟨q1, q2⟩ : b = g ∧ o0 = 0 := by
    have := h3.hp.blk 3 _ rfl hφ
    rw [k1] at this; simpa using this
  subst q1 q2
  obtain ⟨_, vss, ex, E, pre, g1, _, g3, g4, _, g6⟩ := h2.obj 3 (.arr 1 (u.init.map encI)) rfl
  rw [k1] at g1
  obtain ⟨rfl, hp0⟩ : b = _ ∧ 0 = pre.length := by simpa using g1
  obtain rfl : pre = [] := List.eq_nil_of_length_eq_zero hp0.symm
  obtain ⟨e1, e2⟩ := repss_ints g4
  rw [e1, List.nil_append] at g3
  obtain ⟨rr', or⟩ := row_closed rr (e := tR) (size := 1) (els := l.map fun r : Int => [AV.sl 1 (List.replicate r.toNat [.int .i64 0])]) rfl
  have cl : ∀ {els : List (List AV)} {v : Value}, Rep S' w' (startHp tU tC tR mod n ni l u.init) φ' (.sl 1 els) v → Rep S' w' [] [] (.sl 1 els) v ∧ v.oneCell' = true := fun h => ⟨close1_rep h rfl, h.oneCell rfl⟩
  obtain ⟨rp', op⟩ := cl rp
  obtain ⟨rb', ob⟩ := cl rb
  rw [List.take_of_length_le (by simp [hn])] at rr'
  refine ⟨vp, vr, vb, b, cap, S', ?_, ?_, ?_, ?_, ⟨op, or, ob⟩, fun b o hs => h2.cell b o hs, fun b o hs => (h3.new b o hs).elim (hS1 b o) .inr, g6, hg, ⟨?_, k5.2.1⟩, ⟨ex, E, g3⟩, e2⟩
  · rw [k4 hpos]; simp [hni]
  · rw [show (startC u).pc.map encI = List.replicate n [AV.int .i64 0] by simp [startC, hl, hn, encI]]; exact rp'
  · rw [show (startC u).regs.map encRow = l.map fun r : Int => [AV.sl 1 (List.replicate r.toNat [.int .i64 0])] by simp [startC, hl, encRow, aIs, encI]]; exact rr'
  · rw [show (startC u).buf.map encBuf = List.replicate n [AV.sl 2 []] by simp [startC, hl, hn, encBuf, aEs]]; exact rb'
  · have := k5.1; rw [hni]; exact this
theorem flat_ints : ∀ l : List Int, (l.map fun x => [Value.int .i64 x]).flatten = l.map (Value.int .i64)
  | [] => rfl
  | x :: l => by simp [flat_ints l]
theorem rep_made {S : Nat → Nat → Prop} {w : World} {B n : Nat} {a : AV} {c : Value} {E : TypeId} (h : Fresh w B (.cells (madeCells #[c] n) E)) (hr : Rep S w [] [] a c) (h1 : c.oneCell' = true) (hS : ∀ o, o < n → S B o) (hn : n ≤ maxLen) : Rep S w [] [] (.sl 1 (List.replicate n [a])) (.slice (some ⟨B, 0, none⟩) n n) := by
  have hc : ∀ j, j < n → w.cell? ⟨B, j, none⟩ = some c := by
    intro j hj
    unfold Fresh at h
    simp only [World.cell?, h]
    simp [madeCells, hj, Nat.mod_one]
  have := Rep.sl (S := S) (w := w) [] [] 1 (List.replicate n [a]) (List.replicate n [c]) (some ⟨B, 0, none⟩) n (repss_of (by simp) fun k el vs h1' h2 => ?_) ⟨fun vs hv => by rw [List.eq_of_mem_replicate hv]; rfl, fun j vs t x h2 h3 => ?_⟩ ⟨by simp, hn, fun h => by cases h⟩
  · rw [List.length_replicate] at this; exact this
  · obtain rfl := List.eq_of_mem_replicate (List.mem_of_getElem? h1')
    obtain rfl := List.eq_of_mem_replicate (List.mem_of_getElem? h2)
    exact ⟨.cons _ _ _ _ _ _ hr (.nil _ _), by intro v hv; simp at hv; subst hv; exact h1⟩
  · have hj : j < n := by have := (List.getElem?_eq_some_iff.1 h2).1; simpa using this
    obtain rfl := List.eq_of_mem_replicate (List.mem_of_getElem? h2)
    cases t with
    | succ t => simp at h3
    | zero =>
      simp at h3; subst h3
      exact ⟨B, 0, rfl, by simpa using hS j hj, by simpa using hc j hj⟩

set_option maxRecDepth 100000 in
set_option maxHeartbeats 4000000 in
theorem cstart_any (u : UnitS) (v : Value) (w : World) (S0 : Nat → Nat → Prop) (hS0 : ∀ b o, S0 b o → ∃ x, stay w b o = some x) (hR0 : Rep S0 w [] [] (aU u) v) (hv : UnitV w v u) (hr : rightU u = true) (hpos : 0 < u.init.length) : Calls Try.prog 12 #[v] w fun e w' => Below w.heap.size w w' ∧ StartAt w u S0 e w' := by
  have HR := Lib.hid hr
  obtain ⟨hn3, hn1, hn2, hi6⟩ := rightU_len hr
  have HV := Lib.hid hv
  obtain ⟨vi, vr, vc, rfl, s1, s2, s3, m1, m2⟩ := hv
  have HI := Lib.hid s1
  have h2' := ints_view s2
  obtain ⟨a1, c1, rfl, h1⟩ : ∃ a cap, vi = .slice a u.init.length cap ∧ _ := ints_view s1
  obtain ⟨a2, c2, rfl, h2⟩ : ∃ a cap, vr = .slice a u.regs.length cap ∧ _ := ints_view s2
  obtain ⟨a3, c3, rfl, h3⟩ : ∃ a cap, vc = .slice a u.code.length cap ∧ _ := slices_view s3
  have rg : Rep S0 w [] [] (.sl 1 (u.regs.map encI)) (.slice a2 u.regs.length c2) := by
    obtain ⟨vs, r, _, e⟩ := hR0.agg_inv
    cases r with | cons _ _ _ x0 _ _ _ r =>
    cases r with | cons _ _ _ x1 _ _ _ r =>
    cases r with | cons _ _ _ x2 _ _ h r =>
    cases r with | cons _ _ _ x3 _ _ _ r =>
    cases r
    obtain ⟨_, _, rfl, _⟩ : Value.int .i64 u.mod = x0 ∧ _ = x1 ∧ Value.slice a2 u.regs.length c2 = x2 ∧ _ = x3 := by simpa using e
    exact h
  have iw : ∀ x ∈ u.init, (Lit.int .i64 x).wf = true := by
    intro x hx
    obtain ⟨i, hi, rfl⟩ := List.getElem_of_mem hx
    obtain ⟨b, off, _, _, g1, g2⟩ := h1 i hi
    rw [Lit.wf, Bool.and_eq_true]
    exact ⟨decide_eq_true g1, decide_eq_true g2⟩
  have mw : (Lit.int .i64 u.mod).wf = true := by rw [Lit.wf, Bool.and_eq_true]; exact ⟨decide_eq_true m1, decide_eq_true m2⟩
  clear h1 h3 s1 s2 s3 h2' hr
  have hrg : ∀ i (h : i < u.regs.length), 0 ≤ u.regs[i] ∧ u.regs[i] ≤ 6 := fun i hi => (rightU_thread HR.out i hi (by omega)).1
  have HG := Lib.hid hrg
  have H2 := Lib.hid h2
  clear hrg h2
  obtain ⟨n, hn⟩ : ∃ n, u.regs.length = n := ⟨_, rfl⟩
  obtain ⟨ni, hni⟩ : ∃ n, u.init.length = n := ⟨_, rfl⟩
  have hni' := hni
  obtain ⟨nc, hnc⟩ : ∃ n, u.code.length = n := ⟨_, rfl⟩
  obtain ⟨mod, hmod⟩ : ∃ n, u.mod = n := ⟨_, rfl⟩
  rw [hn, hni, hnc, hmod] at HV
  rw [hmod] at mw
  rw [hn] at rg
  rw [hni] at HI
  rw [hn, hni, hnc, hmod]
  rw [hn] at hn1 hn2 hn3
  rw [hni] at hi6
  have N1 := Lib.hid hn; have N2 := Lib.hid hni
  rw [hnc] at hn3
  clear hn hni hnc hmod m1 m2
  have NP : Hid (0 < ni) := by rw [← hni']; exact hpos
  have NN : Hid (1 ≤ n ∧ n ≤ 4 ∧ ni ≤ 6) := ⟨hn1, hn2, hi6⟩
  clear hn1 hn2 hn3 hi6
  have MW := Lib.hid mw; have RG := Lib.hid rg; have IW := Lib.hid iw
  clear mw rg iw
  obtain ⟨W0, hW0⟩ : ∃ W, W = (w.alloc (.cells #[.int .i64 mod, .slice a1 ni c1, .slice a2 n c2, .slice a3 nc c3] 25)).alloc (.cells #[.slice none 0 0, .slice none 0 0, .slice none 0 0, .slice none 0 0] 31) := ⟨_, rfl⟩
  go_enter Try.func12, Try.ntmps12
  go_wp2_with fail
  refine (lowRight_any u _ _ (HV.out.mono ?_)).mono ?_
  · exact ((Below.refl _ _).alloc (Nat.le_refl _) _).alloc (by simp) _
  rintro e w1 ⟨rfl, hb⟩
  rw [HR.out]
  have hb0 : Below w.heap.size w W0 := hW0 ▸ ((Below.refl _ _).alloc (Nat.le_refl _) _).alloc (by simp) _
  have hsz : W0.heap.size = w.heap.size + 1 + 1 := by rw [hW0]; simp
  rw [← hW0] at hb
  have z1 : W0.cell? ⟨w.heap.size, 1, none⟩ = some (.slice a1 ni c1) := by rw [hW0]; exact cell_later ((Below.refl _ _).alloc (Nat.le_refl _) _) (new_cell w _ _ 1 _ rfl)
  have z2 : W0.cell? ⟨w.heap.size, 2, none⟩ = some (.slice a2 n c2) := by rw [hW0]; exact cell_later ((Below.refl _ _).alloc (Nat.le_refl _) _) (new_cell w _ _ 2 _ rfl)
  have ru : Fresh W0 w.heap.size (.cells #[.int .i64 mod, .slice a1 ni c1, .slice a2 n c2, .slice a3 nc c3] 25) := by
    rw [hW0]; exact (Fresh.new w _).later ((Below.refl _ _).alloc (Nat.le_refl _) _)
  have r0 : Fresh W0 (w.heap.size + 1) (.cells #[.slice none 0 0, .slice none 0 0, .slice none 0 0, .slice none 0 0] 31) := by
    have := heap_alloc_new (w.alloc (.cells #[.int .i64 mod, .slice a1 ni c1, .slice a2 n c2, .slice a3 nc c3] 25)) (.cells #[.slice none 0 0, .slice none 0 0, .slice none 0 0, .slice none 0 0] 31)
    rw [World.size_alloc] at this
    rw [hW0]; exact this
  replace z1 := cell_later hb z1; replace z2 := cell_later hb z2; replace r0 := r0.later hb; replace ru := ru.later hb
  have HB := Lib.hid (hb0.trans (hb.mono hb0.size))
  have hz1 : w.heap.size + 1 + 1 ≤ w1.heap.size := by have := hb.size; omega
  have HV1 := Lib.hid (HV.out.mono HB.out)
  have R0 := Lib.hid r0
  have RU := Lib.hid ru
  clear hb hb0 hsz hW0 r0 ru
  clear W0
  go_upto_region 4 with (fail)
  obtain ⟨i0, hi, hi0, hi1, hi2⟩ : ∃ i, Try.prog.info? 3 = some i ∧ i.zero = some (.int .i64 0) ∧ i.size = 1 ∧ i.bytes = 8 := info_of (by kernel_rfl)
  obtain ⟨j0, ji, ji0, ji1, ji2⟩ : ∃ i, Try.prog.info? 38 = some i ∧ i.zero = some (.slice none 0 0) ∧ i.size = 1 ∧ i.bytes = 24 := info_of (by kernel_rfl)
  have hmk : ∀ w' : World, Sem.run Try.prog (Instr.makeSlice 22 (.int .i64 (n : Int)) (.int .i64 (n : Int))) w' = .ok (.slice (some ⟨w'.heap.size, 0, none⟩) n n) (w'.alloc (.cells (madeCells #[.int .i64 0] n) 3)) := by
    intro w'
    have hn := NN.out
    have := run_makeSlice w' 22 3 i0 (.int .i64 0) Try.underlying22 hi hi0 .i64 .i64 n n (by omega) (by omega) (by rw [hi1]; omega) (by rw [hi2]; omega) (by omega)
    rw [hi1, Nat.mul_one] at this
    exact this
  have hmk2 : ∀ w' : World, Sem.run Try.prog (Instr.makeSlice 29 (.int .i64 (n : Int)) (.int .i64 (n : Int))) w' = .ok (.slice (some ⟨w'.heap.size, 0, none⟩) n n) (w'.alloc (.cells (madeCells #[.slice none 0 0] n) 38)) := by
    intro w'
    have hn := NN.out
    have := run_makeSlice w' 29 38 j0 (.slice none 0 0) Try.underlying29 ji ji0 .i64 .i64 n n (by omega) (by omega) (by rw [ji1]; omega) (by rw [ji2]; omega) (by omega)
    rw [ji1, Nat.mul_one] at this
    exact this
  have f1 := Later.cell z1
  clear z1
  have hw1 := HB.out.size
  refine wp_region_facts 9 [0, 2, 3, 5, 1, 4, 6, 7, 8] [1, 4, 6, 8] (fun k => match k with
    | 1 => some fun _ v w' => ∃ B, v = .slice (some ⟨B, 0, none⟩) n n ∧ w1.heap.size ≤ B ∧ Fresh w' B (.cells (madeCells #[.int .i64 0] n) 3)
    | 4 => some fun _ v w' => (∃ g cap, v = .slice (some ⟨g, 0, none⟩) ni cap ∧ w1.heap.size ≤ g ∧ cap ≤ maxLen ∧ ni ≤ cap ∧ ∃ ex, Fresh w' g (.cells (u.init.map (Value.int .i64) ++ ex).toArray 3))
    | 6 => some fun _ v w' => ∃ B, v = .slice (some ⟨B, 0, none⟩) n n ∧ w1.heap.size ≤ B ∧ Fresh w' B (.cells (madeCells #[.slice none 0 0] n) 38)
    | 8 => some fun _ v w' => ∃ B, v = .pointer (some ⟨B, 0, none⟩) ∧ w1.heap.size ≤ B ∧ Fresh w' B (.cells #[.slice none 0 0, .slice none 0 0, .slice none 0 0, .slice none 0 0] 31)
    | _ => none) ?_ ?_ (by kernel_rfl) (by kernel_rfl) ?_
  · intro k ψ hk x v w' w'' hb h
    match k, hk with
    | 1, hk => cases hk; obtain ⟨B, h1, h2, h3⟩ := h; exact ⟨B, h1, h2, h3.later hb⟩
    | 4, hk => cases hk; obtain ⟨g, cap, h1, h2, h3, h4, ex, h5⟩ := h; exact ⟨g, cap, h1, h2, h3, h4, ex, h5.later hb⟩
    | 6, hk => cases hk; obtain ⟨B, h1, h2, h3⟩ := h; exact ⟨B, h1, h2, h3.later hb⟩
    | 8, hk => cases hk; obtain ⟨B, h1, h2, h3⟩ := h; exact ⟨B, h1, h2, h3.later hb⟩
    | 0, hk => cases hk
    | 2, hk => cases hk
    | 3, hk => cases hk
    | 5, hk => cases hk
    | 7, hk => cases hk
    | k + 9, hk => cases hk
  · intro k
    match k with
    | 0 => simp
    | 1 => simp
    | 2 => simp
    | 3 => simp
    | 4 => simp
    | 5 => simp
    | 6 => simp
    | 7 => simp
    | 8 => simp
    | k + 9 => simp
  iterate 4 (
    refine wpFacts_q rfl rfl (fun K hK => ?_)
    go_simp
    refine hK _ ?_
    clear hK K)
  refine wpFacts_s rfl rfl rfl (fun s => ?_) ?_
  · go_simp
    have := s.below.size
    exact ⟨(Below.refl _ _).alloc (Nat.le_refl _) _, ⟨_, rfl, by omega, Fresh.new _ _⟩, fun k hk => by obtain rfl := Option.some.inj hk; exact ⟨Nat.le_refl _, by rw [World.size_alloc]; exact Nat.lt_succ_self _⟩⟩
  rintro v1 w' ⟨B1, rfl, hB1, _⟩ n1
  refine wpFacts_s rfl rfl rfl (fun s => ?_) ?_
  · go_simp
    refine ⟨rfl, ?_⟩
    refine (own_any s.world (.slice a1 ni c1) u.init ?_ ?_).mono ?_
    · have := HI.out; rw [← N2.out] at this ⊢; exact this.mono (mono_int _) ((HB.out.trans (s.below.mono hw1)))
    · have := NN.out; have := N2.out; omega
    · rintro e w2 ⟨x, rfl, hb2, hx⟩
      have := s.below.size
      have hs1 := s.below.size
      have hN2 := N2.out
      rcases owns_split hx with ⟨_, h0⟩ | ⟨g, cap, ex, rfl, g1, g2, g3, g4, _⟩
      · have := NP.out; omega
      · exact ⟨_, rfl, hb2, ⟨g, cap, by rw [hN2], by omega, g4, by omega, ex, g2⟩, fun k hk => by obtain rfl := Option.some.inj hk; exact ⟨g1, (Array.getElem?_eq_some_iff.1 g2).1⟩⟩
  rintro v4 w' ⟨g, cg, rfl, hg1, hg2, hg3, _⟩ n4
  refine wpFacts_s rfl rfl rfl (fun s => ?_) ?_
  · go_simp
    have := s.below.size
    exact ⟨(Below.refl _ _).alloc (Nat.le_refl _) _, ⟨_, rfl, by omega, Fresh.new _ _⟩, fun k hk => by obtain rfl := Option.some.inj hk; exact ⟨Nat.le_refl _, by rw [World.size_alloc]; exact Nat.lt_succ_self _⟩⟩
  rintro v6 w' ⟨B3, rfl, hB3, _⟩ n6
  refine wpFacts_q rfl rfl (fun K hK => ?_)
  go_simp
  refine hK _ ?_
  clear hK K
  refine wpFacts_s rfl rfl rfl (fun s => ?_) ?_
  · go_simp
    have := s.below.size
    exact ⟨(Below.refl _ _).alloc (Nat.le_refl _) _, ⟨_, rfl, by omega, Fresh.new _ _⟩, fun k hk => by obtain rfl := Option.some.inj hk; exact ⟨Nat.le_refl _, by rw [World.size_alloc]; exact Nat.lt_succ_self _⟩⟩
  rintro v8 w' ⟨C, rfl, hC, _⟩ n8
  have D1 : g ≠ B1 := fun h => n4 g rfl (.inr (by rw [h]; rfl))
  have D2 : B3 ≠ B1 := fun h => n6 B3 rfl (.inl (.inr (by rw [h]; rfl)))
  have D3 : B3 ≠ g := fun h => n6 B3 rfl (.inr (by rw [h]; rfl))
  have D4 : C ≠ B1 := fun h => n8 C rfl (.inl (.inl (.inr (by rw [h]; rfl))))
  have D5 : C ≠ g := fun h => n8 C rfl (.inl (.inr (by rw [h]; rfl)))
  have D6 : C ≠ B3 := fun h => n8 C rfl (.inr (by rw [h]; rfl))
  clear n1 n4 n6 n8
  refine wpFacts_nil ?_
  intro w2 hb2 hf
  clear f1 hmk hmk2
  obtain ⟨⟨⟨⟨_, q1⟩, q4⟩, q6⟩, q8⟩ := hf
  obtain ⟨B1', e1, _, F1⟩ := q1
  obtain ⟨g', cg', e4, _, _, _, ex, F4⟩ := q4
  obtain ⟨B3', e6, _, F3⟩ := q6
  obtain ⟨C', e8, _, F8⟩ := q8
  obtain rfl : B1 = B1' := by simpa using e1
  obtain ⟨rfl, rfl⟩ : g = g' ∧ cg = cg' := by simpa using e4
  obtain rfl : B3 = B3' := by simpa using e6
  obtain rfl : C = C' := by simpa using e8
  clear e1 e4 e6 e8
  have w0 : ∀ k, k < 4 → VarAt w2 C k (.slice none 0 0) := by
    intro k hk
    unfold Fresh at F8
    have : k = 0 ∨ k = 1 ∨ k = 2 ∨ k = 3 := by omega
    constructor
    · rcases this with rfl | rfl | rfl | rfl <;> simp [World.cell?, F8]
    · simp [World.frozen?, F8]
  obtain ⟨y0, y0'⟩ := w0 0 (by decide); obtain ⟨y1, y1'⟩ := w0 1 (by decide); obtain ⟨y2, y2'⟩ := w0 2 (by decide); obtain ⟨y3, y3'⟩ := w0 3 (by decide)
  clear w0
  simp only [List.drop_succ_cons, List.drop_zero]
  go_upto_region 5 with (fail)
  have G4 : Fresh ((((w2.setCell ⟨C, 0, none⟩ (.slice (some ⟨B1, 0, none⟩) n n)).setCell ⟨C, 1, none⟩ (.slice none 0 0)).setCell ⟨C, 2, none⟩ (.slice (some ⟨g, 0, none⟩) ni cg)).setCell ⟨C, 3, none⟩ (.slice (some ⟨B3, 0, none⟩) n n)) g _ := (((F4.setCell (p := ⟨C, 0, none⟩) D5 _).setCell (p := ⟨C, 1, none⟩) D5 _).setCell (p := ⟨C, 2, none⟩) D5 _).setCell (p := ⟨C, 3, none⟩) D5 (.slice (some ⟨B3, 0, none⟩) n n)
  have G1 : Fresh ((((w2.setCell ⟨C, 0, none⟩ (.slice (some ⟨B1, 0, none⟩) n n)).setCell ⟨C, 1, none⟩ (.slice none 0 0)).setCell ⟨C, 2, none⟩ (.slice (some ⟨g, 0, none⟩) ni cg)).setCell ⟨C, 3, none⟩ (.slice (some ⟨B3, 0, none⟩) n n)) B1 _ := (((F1.setCell (p := ⟨C, 0, none⟩) D4 _).setCell (p := ⟨C, 1, none⟩) D4 _).setCell (p := ⟨C, 2, none⟩) D4 _).setCell (p := ⟨C, 3, none⟩) D4 (.slice (some ⟨B3, 0, none⟩) n n)
  have G3 : Fresh ((((w2.setCell ⟨C, 0, none⟩ (.slice (some ⟨B1, 0, none⟩) n n)).setCell ⟨C, 1, none⟩ (.slice none 0 0)).setCell ⟨C, 2, none⟩ (.slice (some ⟨g, 0, none⟩) ni cg)).setCell ⟨C, 3, none⟩ (.slice (some ⟨B3, 0, none⟩) n n)) B3 _ := (((F3.setCell (p := ⟨C, 0, none⟩) D6 _).setCell (p := ⟨C, 1, none⟩) D6 _).setCell (p := ⟨C, 2, none⟩) D6 _).setCell (p := ⟨C, 3, none⟩) D6 (.slice (some ⟨B3, 0, none⟩) n n)
  have G8 : Fresh ((((w2.setCell ⟨C, 0, none⟩ (.slice (some ⟨B1, 0, none⟩) n n)).setCell ⟨C, 1, none⟩ (.slice none 0 0)).setCell ⟨C, 2, none⟩ (.slice (some ⟨g, 0, none⟩) ni cg)).setCell ⟨C, 3, none⟩ (.slice (some ⟨B3, 0, none⟩) n n)) C (.cells #[.slice (some ⟨B1, 0, none⟩) n n, .slice none 0 0, .slice (some ⟨g, 0, none⟩) ni cg, .slice (some ⟨B3, 0, none⟩) n n] 31) := by
    unfold Fresh at F8 ⊢
    simp [World.setCell, Array.getElem?_modify, F8]
  have dU : C ≠ w.heap.size := by omega
  have dR : C ≠ w.heap.size + 1 := by omega
  have GU : Fresh ((((w2.setCell ⟨C, 0, none⟩ (.slice (some ⟨B1, 0, none⟩) n n)).setCell ⟨C, 1, none⟩ (.slice none 0 0)).setCell ⟨C, 2, none⟩ (.slice (some ⟨g, 0, none⟩) ni cg)).setCell ⟨C, 3, none⟩ (.slice (some ⟨B3, 0, none⟩) n n)) w.heap.size _ := ((((RU.out.later hb2).setCell (p := ⟨C, 0, none⟩) dU _).setCell (p := ⟨C, 1, none⟩) dU _).setCell (p := ⟨C, 2, none⟩) dU _).setCell (p := ⟨C, 3, none⟩) dU (.slice (some ⟨B3, 0, none⟩) n n)
  have GR : Fresh ((((w2.setCell ⟨C, 0, none⟩ (.slice (some ⟨B1, 0, none⟩) n n)).setCell ⟨C, 1, none⟩ (.slice none 0 0)).setCell ⟨C, 2, none⟩ (.slice (some ⟨g, 0, none⟩) ni cg)).setCell ⟨C, 3, none⟩ (.slice (some ⟨B3, 0, none⟩) n n)) (w.heap.size + 1) _ := ((((R0.out.later hb2).setCell (p := ⟨C, 0, none⟩) dR _).setCell (p := ⟨C, 1, none⟩) dR _).setCell (p := ⟨C, 2, none⟩) dR _).setCell (p := ⟨C, 3, none⟩) dR (.slice (some ⟨B3, 0, none⟩) n n)
  have hBW : Below w.heap.size w ((((w2.setCell ⟨C, 0, none⟩ (.slice (some ⟨B1, 0, none⟩) n n)).setCell ⟨C, 1, none⟩ (.slice none 0 0)).setCell ⟨C, 2, none⟩ (.slice (some ⟨g, 0, none⟩) ni cg)).setCell ⟨C, 3, none⟩ (.slice (some ⟨B3, 0, none⟩) n n)) := by
    have hC' : w.heap.size ≤ C := by omega
    exact ((((HB.out.trans (hb2.mono hw1)).setCell (p := ⟨C, 0, none⟩) hC' _).setCell (p := ⟨C, 1, none⟩) hC' _).setCell (p := ⟨C, 2, none⟩) hC' _).setCell (p := ⟨C, 3, none⟩) hC' _
  generalize (((w2.setCell ⟨C, 0, none⟩ (.slice (some ⟨B1, 0, none⟩) n n)).setCell ⟨C, 1, none⟩ (.slice none 0 0)).setCell ⟨C, 2, none⟩ (.slice (some ⟨g, 0, none⟩) ni cg)).setCell ⟨C, 3, none⟩ (.slice (some ⟨B3, 0, none⟩) n n) = W at *
  have hreg : ∃ l, u.regs = l ∧ l.length = n := ⟨_, rfl, N1.out⟩
  have hsW : Sim Try.prog w.heap.size (startS S0 n B1 B3) W [.var 25 [.int .i64 mod, .junk, .sl 1 (u.regs.map encI), .junk], .var 31 [.junk, .junk, .junk, .junk], .var 31 [.sl 1 (List.replicate n [.int .i64 0]), .nils, .own 3 0 ni, .sl 1 (List.replicate n [.sl 2 []])], .arr 1 (u.init.map encI)] [.blk w.heap.size, .blk (w.heap.size + 1), .blk C, .ofs g 0] := by
    have hS : ∀ b o, b < B1 → b < B3 → w.heap.size ≤ b → ¬ startS S0 n B1 B3 b o := by
      rintro b o h1 h2 h3 (hv | ⟨rfl | rfl, _⟩)
      · obtain ⟨v, hv⟩ := hS0 b o hv
        exact absurd (cell_lt hv) (by omega)
      · omega
      · omega
    have hS2 : ∀ b o, b ≠ B1 → b ≠ B3 → w.heap.size ≤ b → ¬ startS S0 n B1 B3 b o := by
      rintro b o h1 h2 h3 (hv | ⟨h | h, _⟩)
      · obtain ⟨v, hv⟩ := hS0 b o hv
        exact absurd (cell_lt hv) (by omega)
      · exact h1 h
      · exact h2 h
    refine ⟨rfl, hBW.size, ?_, ?_, ?_⟩
    · rintro b o (h | ⟨h, ho⟩)
      · have h1 := stay_below hBW (hS0 b o h)
        obtain ⟨v, hv⟩ := hS0 b o h
        exact ⟨v, h1.trans hv, fun hb => absurd (cell_lt hv) (by omega)⟩
      · have : ∃ v, stay W b o = some v ∧ v.2.2 = (0, 0) := by
          rcases h with rfl | rfl
          · exact G1.stays (by rw [size_madeCells]; exact ho)
          · exact G3.stays (by rw [size_madeCells]; exact ho)
        obtain ⟨v, h1, h2⟩ := this
        exact ⟨v, h1, fun _ => h2⟩
    · have hmN : n ≤ maxLen := by have := NN.out; unfold maxLen; omega
      intro id o ho
      match id, ho with
      | 0, ho =>
        cases ho
        refine ⟨_, [.int .i64 mod, .slice a1 ni c1, .slice a2 n c2, .slice a3 nc c3], _, rfl, by omega, GU, .cons _ _ _ _ _ _ (.int _ _ _ _ MW.out) (.cons _ _ _ _ _ _ (.junk _ _ _) (.cons _ _ _ _ _ _ ?_ (.cons _ _ _ _ _ _ (.junk _ _ _) (.nil _ _)))), (by intro v hv; simp at hv; rcases hv with rfl | rfl | rfl | rfl <;> rfl), fun o => hS _ o (by omega) (by omega) (by omega)⟩
        exact (Rep.mono (fun b o hs => ⟨.inl hs, stay_below hBW (hS0 b o hs)⟩) RG.out (.refl _ _)).lift
      | 1, ho =>
        cases ho
        exact ⟨_, [.slice none 0 0, .slice none 0 0, .slice none 0 0, .slice none 0 0], _, rfl, by omega, GR, .cons _ _ _ _ _ _ (.junk _ _ _) (.cons _ _ _ _ _ _ (.junk _ _ _) (.cons _ _ _ _ _ _ (.junk _ _ _) (.cons _ _ _ _ _ _ (.junk _ _ _) (.nil _ _)))), (by intro v hv; simp at hv; rcases hv with rfl | rfl | rfl | rfl <;> rfl), fun o => hS _ o (by omega) (by omega) (by omega)⟩
      | 2, ho =>
        cases ho
        refine ⟨_, [.slice (some ⟨B1, 0, none⟩) n n, .slice none 0 0, .slice (some ⟨g, 0, none⟩) ni cg, .slice (some ⟨B3, 0, none⟩) n n], _, rfl, by omega, G8, .cons _ _ _ _ _ _ ?_ (.cons _ _ _ _ _ _ (.nils _ _) (.cons _ _ _ _ _ _ ?_ (.cons _ _ _ _ _ _ ?_ (.nil _ _)))), (by intro v hv; simp at hv; rcases hv with rfl | rfl | rfl | rfl <;> rfl), fun o => hS2 _ o D4 D6 (by omega)⟩
        · exact (rep_made G1 (.int _ _ _ _ (by decide)) rfl (fun o ho => .inr ⟨.inl rfl, ho⟩) hmN).lift
        · have hin := N2.out
          exact .own _ _ 3 0 ni g 1 (u.init.map encI) cg 0 rfl rfl (by rw [List.length_map]; omega) _ (fun _ => rfl) ⟨hg3, hg2, fun h => by cases h⟩
        · exact (rep_made G3 rep_none rfl (fun o ho => .inr ⟨.inr rfl, ho⟩) hmN).lift
      | 3, ho =>
        cases ho
        refine ⟨g, u.init.map fun x => [Value.int .i64 x], ex, 3, [], rfl, by omega, ?_, ?_, ?_, fun o => hS2 _ o D1 (Ne.symm D3) (by omega)⟩
        · have e : (u.init.map fun x => [Value.int .i64 x]).flatten = u.init.map (Value.int .i64) := flat_ints u.init
          rw [e, List.nil_append]; exact G4
        · refine repss_of (by simp) fun k el vs e1 e2 => ?_
          rw [List.getElem?_map] at e1 e2
          cases hk : u.init[k]? with
          | none => rw [hk] at e1; cases e1
          | some y =>
            rw [hk] at e1 e2
            cases e1; cases e2
            exact ⟨.cons _ _ _ _ _ _ (.int _ _ _ _ (IW.out y (List.mem_of_getElem? hk))) (.nil _ _), by intro v hv; simp at hv; subst hv; rfl⟩
        · intro vs hv
          obtain ⟨y, _, rfl⟩ := List.mem_map.1 hv
          rfl
      | k + 4, ho => simp at ho
    · intro i j b hi hj
      have hi4 : i < 4 := by
        match i, hi with
        | 0, _ => omega
        | 1, _ => omega
        | 2, _ => omega
        | 3, _ => omega
        | k + 4, hi => simp [blockAt] at hi
      have hj4 : j < 4 := by
        match j, hj with
        | 0, _ => omega
        | 1, _ => omega
        | 2, _ => omega
        | 3, _ => omega
        | k + 4, hj => simp [blockAt] at hj
      have key : ∀ i, i < 4 → ∀ b, blockAt [.blk w.heap.size, .blk (w.heap.size + 1), .blk C, .ofs g 0] i = some b → (i = 0 ∧ b = w.heap.size) ∨ (i = 1 ∧ b = w.heap.size + 1) ∨ (i = 2 ∧ b = C) ∨ (i = 3 ∧ b = g) := by
        intro i hi b hb
        have : i = 0 ∨ i = 1 ∨ i = 2 ∨ i = 3 := by omega
        rcases this with rfl | rfl | rfl | rfl <;> simp [blockAt] at hb <;> simp [hb]
      have k1 := key i hi4 b hi
      have k2 := key j hj4 b hj
      omega
  have hnn := NN.out
  obtain ⟨l, hl, hln⟩ := hreg
  rw [hl] at hsW
  have hck : ∀ r : Int, 0 ≤ r ∧ r ≤ 6 → (decide (0 ≤ r) && decide (r = r) && decide (((Program.bytesOf Try.prog 3 : Nat) : Int) * r ≤ 140737488355328)) = true := by
    intro r hr
    have e : Program.bytesOf Try.prog 3 = 8 := by kernel_rfl
    rw [e, decide_eq_true hr.1, decide_eq_true rfl, decide_eq_true (by omega)]; rfl
  have hrl : ∀ r ∈ l, 0 ≤ r ∧ r ≤ 6 := by
    intro r hr
    rw [← hl] at hr
    obtain ⟨i, hi, rfl⟩ := List.getElem_of_mem hr
    exact HG.out i hi
  have fin : ∀ (l' : List Int), l' = l → ∀ (x : Value) S' w' φ' hp0, Rep S' w' (startHp 25 31 22 mod n ni l' u.init) φ' (startV n ni) x → Sim Try.prog w.heap.size S' w' (startHp 25 31 22 mod n ni l' u.init) φ' → Trans w.heap.size (startS S0 n B1 B3) W hp0 [.blk w.heap.size, .blk (w.heap.size + 1), .blk C, .ofs g 0] S' w' (startHp 25 31 22 mod n ni l' u.init) φ' → Below w.heap.size w w' ∧ StartAt w u S0 (.returned x) w' := by
    intro l' hl' x S' w' φ' hp0 h1 h2 h3
    have hS1 : ∀ b o, startS S0 n B1 B3 b o → S0 b o ∨ w.heap.size ≤ b := by
      rintro b o (h | ⟨rfl | rfl, _⟩)
      · exact .inl h
      · exact .inr (by omega)
      · exact .inr (by omega)
    exact start_fin hS1 (hl.trans hl'.symm) (hl' ▸ hln) N2.out NP.out rfl h1 h2 h3 hBW (by omega)
  clear hl
  match l, hln with
  | [], hln => simp at hln; omega
  | [r0], hln =>
    obtain rfl : n = 1 := by simpa using hln.symm
    have d0 := hck r0 (hrl r0 (by simp))
    refine tail_fn (call := cN XK 40) (f := 12) (fuel := 40) (v := startV 1 ni) (hp' := startHp 25 31 22 mod 1 ni [r0] u.init) (tm := (((List.replicate 39 AV.junk).set 1 (.ptr 0 0)).set 2 (.ptr 1 0)).set 5 (.ptr 2 0)) mixed goodHH (cN_sound extK_sound 40) (by kernel_rfl) (by kernel_rfl) (by kernel_rfl) hsW (reps_at3 (.ptr _ _ 0 0 _ rfl) (.ptr _ _ 1 0 _ rfl) (.ptr _ _ 2 0 _ rfl) rfl rfl rfl rfl) rfl ?_ (fun x S' w' φ' h1 h2 h3 => fin _ rfl x S' w' φ' _ h1 h2 h3) (by assumption) (by assumption)
    conv => lhs; whnf
    rewrite [d0]
    conv => lhs; whnf
    rfl
  | [r0, r1], hln =>
    obtain rfl : n = 2 := by simpa using hln.symm
    have d0 := hck r0 (hrl r0 (by simp))
    have d1 := hck r1 (hrl r1 (by simp))
    refine tail_fn (call := cN XK 40) (f := 12) (fuel := 40) (v := startV 2 ni) (hp' := startHp 25 31 22 mod 2 ni [r0, r1] u.init) (tm := (((List.replicate 39 AV.junk).set 1 (.ptr 0 0)).set 2 (.ptr 1 0)).set 5 (.ptr 2 0)) mixed goodHH (cN_sound extK_sound 40) (by kernel_rfl) (by kernel_rfl) (by kernel_rfl) hsW (reps_at3 (.ptr _ _ 0 0 _ rfl) (.ptr _ _ 1 0 _ rfl) (.ptr _ _ 2 0 _ rfl) rfl rfl rfl rfl) rfl ?_ (fun x S' w' φ' h1 h2 h3 => fin _ rfl x S' w' φ' _ h1 h2 h3) (by assumption) (by assumption)
    conv => lhs; whnf
    rewrite [d0]
    conv => lhs; whnf
    rewrite [d1]
    conv => lhs; whnf
    rfl
  | [r0, r1, r2], hln =>
    obtain rfl : n = 3 := by simpa using hln.symm
    have d0 := hck r0 (hrl r0 (by simp))
    have d1 := hck r1 (hrl r1 (by simp))
    have d2 := hck r2 (hrl r2 (by simp))
    refine tail_fn (call := cN XK 40) (f := 12) (fuel := 40) (v := startV 3 ni) (hp' := startHp 25 31 22 mod 3 ni [r0, r1, r2] u.init) (tm := (((List.replicate 39 AV.junk).set 1 (.ptr 0 0)).set 2 (.ptr 1 0)).set 5 (.ptr 2 0)) mixed goodHH (cN_sound extK_sound 40) (by kernel_rfl) (by kernel_rfl) (by kernel_rfl) hsW (reps_at3 (.ptr _ _ 0 0 _ rfl) (.ptr _ _ 1 0 _ rfl) (.ptr _ _ 2 0 _ rfl) rfl rfl rfl rfl) rfl ?_ (fun x S' w' φ' h1 h2 h3 => fin _ rfl x S' w' φ' _ h1 h2 h3) (by assumption) (by assumption)
    conv => lhs; whnf
    rewrite [d0]
    conv => lhs; whnf
    rewrite [d1]
    conv => lhs; whnf
    rewrite [d2]
    conv => lhs; whnf
    rfl
  | [r0, r1, r2, r3], hln =>
    obtain rfl : n = 4 := by simpa using hln.symm
    have d0 := hck r0 (hrl r0 (by simp))
    have d1 := hck r1 (hrl r1 (by simp))
    have d2 := hck r2 (hrl r2 (by simp))
    have d3 := hck r3 (hrl r3 (by simp))
    refine tail_fn (call := cN XK 40) (f := 12) (fuel := 40) (v := startV 4 ni) (hp' := startHp 25 31 22 mod 4 ni [r0, r1, r2, r3] u.init) (tm := (((List.replicate 39 AV.junk).set 1 (.ptr 0 0)).set 2 (.ptr 1 0)).set 5 (.ptr 2 0)) mixed goodHH (cN_sound extK_sound 40) (by kernel_rfl) (by kernel_rfl) (by kernel_rfl) hsW (reps_at3 (.ptr _ _ 0 0 _ rfl) (.ptr _ _ 1 0 _ rfl) (.ptr _ _ 2 0 _ rfl) rfl rfl rfl rfl) rfl ?_ (fun x S' w' φ' h1 h2 h3 => fin _ rfl x S' w' φ' _ h1 h2 h3) (by assumption) (by assumption)
    conv => lhs; whnf
    rewrite [d0]
    conv => lhs; whnf
    rewrite [d1]
    conv => lhs; whnf
    rewrite [d2]
    conv => lhs; whnf
    rewrite [d3]
    conv => lhs; whnf
    rfl
  | _ :: _ :: _ :: _ :: _ :: _, hln => simp at hln; omega
end Go.Proofs.Ytejkhpgahnncnaa
end

section
namespace Go.Proofs.Ytejkhpgahnncnaa
open Go.RowKit
set_option linter.unusedVariables false
set_option linter.unusedSimpArgs false

/-- Contracts of calls, known besides: of closed ones (false), and of those whose objects go to the caller (true). -/
abbrev ExtO := Bool → FuncId → Option (List AV → Option (AV × Hp))
def SoundExtO (P : Program) (Y : ExtO) : Prop := ∀ (st : Bool) (g : FuncId) (k : List AV → Option (AV × Hp)), Y st g = some k → ∀ (args : List AV) (v : AV) (hp' : Hp), k args = some (v, hp') → ∀ (base : Nat) (S : Nat → Nat → Prop) (w : World) (vs : List Value), Sim P base S w [] [] → Reps S w [] [] args vs →
  Calls P g vs.toArray w fun e w' => ∃ u S' φ', e = .returned u ∧ Rep S' w' hp' φ' v u ∧ Sim P base S' w' hp' φ' ∧ Trans base S w [] [] S' w' hp' φ'
def callO (call : CallT) (Y : ExtO) : CallT := fun st g args hp => match Y st g with
  | some k => match hp with
    | [] => k args
    | _ => none
  | none => call st g args hp
theorem callO_sound {P : Program} {H : Hints} {call : CallT} {Y : ExtO} (hc : SoundCall P H call) (hY : SoundExtO P Y) : SoundCall P H (callO call Y) := by
  intro st g args hp v hp' h base S w φ vs hs hr
  unfold callO at h
  cases hy : Y st g with
  | none => rw [hy] at h; exact hc st g args hp v hp' h base S w φ vs hs hr
  | some k =>
    rw [hy] at h
    cases hp with
    | cons _ _ => cases h
    | nil =>
      have hφ : φ = [] := List.eq_nil_of_length_eq_zero hs.len
      subst hφ
      exact hY st g k hy args v hp' h base S w vs hs hr
theorem sim_all {P : Program} (W : World) : Sim P W.heap.size (SAll W) W [] [] := ⟨rfl, Nat.le_refl _, fun _ _ ⟨u, hu⟩ => ⟨u, hu, fun hb => absurd (stay_lt hu) (by omega)⟩, fun id o ho => by simp at ho, fun i j b hi => by simp [blockAt] at hi⟩
/-- A law's call, by the interpreter, with such contracts. -/
theorem law_callsO {call : CallT} (hc : SoundCall Try.prog HH call) {n : Nat} {g : FuncId} {args : List AV} {W : World} {vs : List Value} (h : runFn Try.prog HH call n false g args [] = some (.bool true, [])) (hr : Reps (SAll W) W [] [] args vs) : Calls Try.prog g vs.toArray W fun e w' => e = .returned (.bool true) ∧ Below W.heap.size W w' := by
  refine (fn_sound mixed goodHH hc plainHH h (sim_all W) hr).mono ?_
  rintro e w' ⟨u, S', φ', rfl, hu, _, ht⟩
  exact ⟨by rw [hu.bool_inv], ht.below⟩
/-- How such a run begins. -/
theorem runFn_eqC {P : Program} {H : Hints} {call : CallT} {n : Nat} {f : FuncId} {args : List AV} {hp : Hp} {fn : Func} {c : Code} {r : Option (AV × Hp)} (hf : P.funcs[f]? = some fn) (hb : fn.body = some c) (hg : H.plain.contains f = true) (ha : args.length ≤ fn.ntmps)
    (h : ∀ call' : CallT, call' = call → runC P H call' f n hp.length c (args ++ List.replicate (fn.ntmps - args.length) .junk) hp (fun e tm hp' => match e with
        | .exit _ => none
        | _ => resV P fn tm hp' fun v => some (wane hp.length hp' v, (waneHp hp.length hp').map (normOb P))) = r) : runFn P H call n false f args hp = r := by
  have : (H.plain.contains f && decide (args.length ≤ fn.ntmps)) = true := by rw [hg, decide_eq_true ha]; rfl
  rw [← h call rfl]
  simp only [runFn, hf, hb, this]
  rfl
end Go.Proofs.Ytejkhpgahnncnaa
end

section
namespace Go.Proofs.Ytejkhpgahnncnaa
set_option linter.unusedVariables false
set_option linter.unusedSimpArgs false
set_option maxRecDepth 100000
set_option maxHeartbeats 4000000

theorem ok_conf_own_int {n:Nat} ⦃v0_l:(List Int)⦄ ⦃r:(List Int)⦄:m_conf_own_int n v0_l=some r→CN n 34 [AV.sl 1 (List.map encI v0_l)] []=some (AV.sl 1 (List.map encI r),[]):=by
 intro h;rcases n with _|n;cases h
 rw [m_conf_own_int] at h
 refine callN_eq' Try.func34 (by rfl) rfl rfl (Nat.le_of_ble_eq_true rfl) ?_
 intro call hc;conv=>lhs;whnf
 revert h
 refine cn ?_
 refine br ?_ ?_
 exact rz
 intro h;obtain rfl:=sj h
 try simp only [ls]
 exact fq (y:=some (AV.sl 1 (List.take (List.length v0_l) (List.drop 0 (List.map encI v0_l))),[]))

theorem ok_conf_Start {n:Nat} ⦃v0_u:UnitS⦄ ⦃r:(ConfS×Int)⦄:m_conf_Start n v0_u=some r→CN n 12 [AV.agg [iA (v0_u.mod),AV.sl 1 (List.map encI (v0_u.init)),AV.sl 1 (List.map encI (v0_u.regs)),AV.sl 1 (List.map encThr (v0_u.code))]] []=some (AV.tup [AV.agg [AV.sl 1 (List.map encI (r.1.pc)),AV.sl 1 (List.map encRow (r.1.regs)),AV.sl 1 (List.map encI (r.1.mem)),AV.sl 1 (List.map encBuf (r.1.buf))],iA r.2],[]):=by
 intro h;rcases n with _|n;cases h
 rw [m_conf_Start] at h
 refine callN_eq' Try.func12 (by rfl) rfl rfl (Nat.le_of_ble_eq_true rfl) ?_
 intro call hc;conv=>lhs;whnf
 revert h
 refine ca hc (fun _ h=>ok_lower_Right h) ?_;intro y1
 refine br ?_ ?_
 intro h
 refine chk_some2 h ?_;clear h;intro hc5 h
 try simp only [ls]
 refine bif_pos (by first|exact make_ok (B:=8) hc5 rfl (by kernel_rfl)|exact make_ok2 (B:=8) hc5 (by kernel_rfl)) ?_
 have hr4:List.replicate ((((v0_u.regs).length:Nat):Int)).toNat [iA (0)]=List.map encI (List.replicate ((((v0_u.regs).length:Nat):Int)).toNat 0:List Int):=by rw [List.map_replicate];rfl
 simp only [hr4,ls]
 conv=>lhs;whnf
 revert h
 refine ca hc (fun _ h=>ok_conf_own_int h) ?_;intro y6
 intro h
 refine chk_some2 h ?_;clear h;intro hc9 h
 try simp only [ls]
 refine bif_pos (by first|exact make_ok (B:=24) hc9 rfl (by kernel_rfl)|exact make_ok2 (B:=24) hc9 (by kernel_rfl)) ?_
 have hr8:List.replicate ((((v0_u.regs).length:Nat):Int)).toNat [AV.sl 2 []]=List.map encBuf (List.replicate ((((v0_u.regs).length:Nat):Int)).toNat ([]:List EntryS):List (List EntryS)):=by rw [List.map_replicate];rfl
 simp only [hr8,ls]
 conv=>lhs;whnf
 revert h
 intro h;refine bind_some2 h ?_;clear h;intro o19 ho19 h
 refine lq (σ:=(Int×(List (List Int)))) (τ:=(List (List Int))) (ν:=(ConfS×Int)) 0 (fun (s10,s11) a13=>stOf 39 [(2,AV.ptr 1 0),(5,AV.ptr 2 0),(24,AV.sl 1 (List.map encI (v0_u.regs))),(25,iA ((((v0_u.regs).length:Nat):Int))),(26,iA s10)]) (fun (s10,s11) a13=>[Ob.var 25 [iA (v0_u.mod),AV.sl 1 (List.map encI (v0_u.init)),AV.sl 1 (List.map encI (v0_u.regs)),AV.sl 1 (List.map encThr (v0_u.code))],Ob.var 31 [AV.row 3 (List.length (([]:List Int))),AV.row 4 (List.length (([]:List (List Int)))),AV.row 5 (List.length (([]:List Int))),AV.row 6 (List.length (([]:List (List EntryS))))],Ob.var 31 [AV.sl 1 (List.map encI ((List.replicate ((((v0_u.regs).length:Nat):Int)).toNat 0:List Int))),AV.row 7 (List.length s11),AV.sl 1 (List.map encI y6),AV.sl 1 (List.map encBuf ((List.replicate ((((v0_u.regs).length:Nat):Int)).toNat ([]:List EntryS):List (List EntryS))))],Ob.row 3 1 ([]),Ob.row 22 1 ([]),Ob.row 3 1 ([]),Ob.row 38 1 ([]),Ob.row 22 1 (List.map encRow s11)]) (fun x27 a26=>stOf 39 [(2,AV.ptr 1 0),(5,AV.ptr 2 0)]) (fun x27 a26=>[Ob.var 25 [iA (v0_u.mod),AV.sl 1 (List.map encI (v0_u.init)),AV.sl 1 (List.map encI (v0_u.regs)),AV.sl 1 (List.map encThr (v0_u.code))],Ob.var 31 [AV.row 3 (List.length (([]:List Int))),AV.row 4 (List.length (([]:List (List Int)))),AV.row 5 (List.length (([]:List Int))),AV.row 6 (List.length (([]:List (List EntryS))))],Ob.var 31 [AV.sl 1 (List.map encI ((List.replicate ((((v0_u.regs).length:Nat):Int)).toNat 0:List Int))),AV.row 7 (List.length x27),AV.sl 1 (List.map encI y6),AV.sl 1 (List.map encBuf ((List.replicate ((((v0_u.regs).length:Nat):Int)).toNat ([]:List EntryS):List (List EntryS))))],Ob.row 3 1 ([]),Ob.row 22 1 ([]),Ob.row 3 1 ([]),Ob.row 38 1 ([]),Ob.row 22 1 (List.map encRow x27)]) (fun v=>(AV.tup [AV.agg [AV.sl 1 (List.map encI (v.1.pc)),AV.sl 1 (List.map encRow (v.1.regs)),AV.sl 1 (List.map encI (v.1.mem)),AV.sl 1 (List.map encBuf (v.1.buf))],iA v.2],[])) (fun k s=>conf_Start_L0 n v0_u k s.1 s.2) (fun s=>rfl) o19 n (0,([]:List (List Int))) (fun _=>0) ho19 ?_ ?_
 intro k12 ss a13 K14 cont15 hK16 hcont17 h hr18
 obtain ⟨s10,s11⟩:=ss
 replace h:conf_Start_L0 n v0_u (k12+1) s10 s11=some o19:=h
 rw [conf_Start_L0] at h
 conv=>lhs;whnf
 revert h
 refine br ?_ ?_
 refine ix ?_;intro x21
 intro h
 refine chk_some2 h ?_;clear h;intro hc23 h
 try simp only [ls]
 refine bif_pos (by first|exact make_ok (B:=8) hc23 rfl (by kernel_rfl)|exact make_ok2 (B:=8) hc23 (by kernel_rfl)) ?_
 have hr22:List.replicate x21.toNat [iA (0)]=List.map encI (List.replicate x21.toNat 0:List Int):=by rw [List.map_replicate];rfl
 simp only [hr22,ls]
 conv=>lhs;whnf
 revert h
 refine ar (ap encRow (List.map encRow s11) s11 ([[AV.sl 1 (List.map encI ((List.replicate x21.toNat 0:List Int)))]]) ([(List.replicate x21.toNat 0:List Int)]:List (List Int))) ?_
 exact fun h=>cq (hcont17 (IntKind.i64.wrap (s10+1),(s11++([(List.replicate x21.toNat 0:List Int)]:List (List Int)))) (fun _=>0) h)
 intro h;cases sj h
 exact kq (hr18 (fun _=>0))
 refine lrc ?_ ?_
 intro v e;subst e;cases sj h;rfl
 intro x27 a26 e;subst e
 dsimp only at h
 conv=>lhs;whnf
 revert h
 intro h;cases sj h
 try simp only [ls]
 exact fq (y:=some (AV.tup [AV.agg [AV.sl 1 (List.map encI ((List.replicate ((((v0_u.regs).length:Nat):Int)).toNat 0:List Int))),AV.sl 1 (List.take (List.length x27) (List.map encRow x27)),AV.sl 1 (List.map encI y6),AV.sl 1 (List.map encBuf ((List.replicate ((((v0_u.regs).length:Nat):Int)).toNat ([]:List EntryS):List (List EntryS))))],iA (0)],[]))
 exact rz
end Go.Proofs.Ytejkhpgahnncnaa
end

section
namespace Go.Proofs.Ytejkhpgahnncnaa
set_option linter.unusedVariables false
set_option linter.unusedSimpArgs false

/-- A configuration's threads. -/
abbrev Thr := Int × List Int × List EntryS
def thrs (c : ConfS) : List Thr := c.pc.zip (c.regs.zip c.buf)
structure Even (c : ConfS) : Prop where
  r : c.regs.length = c.pc.length
  b : c.buf.length = c.pc.length
theorem Even.len {c : ConfS} (h : Even c) : (thrs c).length = c.pc.length := by
  have := h.r; have := h.b
  simp only [thrs, List.length_zip]; omega
theorem Even.at {c : ConfS} (h : Even c) {i : Nat} (hi : i < c.pc.length) : (thrs c)[i]? = some (c.pc[i], c.regs[i]'(by rw [h.r]; exact hi), c.buf[i]'(by rw [h.b]; exact hi)) := by
  have h1 := h.r; have h2 := h.b
  simp only [thrs, List.getElem?_zip_eq_some, List.getElem?_eq_getElem hi, List.getElem?_eq_getElem (show i < c.regs.length by omega), List.getElem?_eq_getElem (show i < c.buf.length by omega)]
  simp
end Go.Proofs.Ytejkhpgahnncnaa
end

section
namespace Go.Proofs.Ytejkhpgahnncnaa
set_option linter.unusedVariables false
set_option linter.unusedSimpArgs false

def zeroC : ConfS := ⟨[], [], [], []⟩
end Go.Proofs.Ytejkhpgahnncnaa
end

section
namespace Go.Proofs.Ytejkhpgahnncnaa
set_option linter.unusedVariables false
set_option linter.unusedSimpArgs false

theorem light_mono {c : ConfS} (h1 : c.pc.length ≤ 8) (h2 : c.mem.length ≤ 20) (h3 : c.regs.length ≤ 8) (h4 : c.buf.length ≤ 8) (h5 : ∀ r ∈ c.regs, r.length ≤ 20) (h6 : ∀ b ∈ c.buf, b.length ≤ 300) : LightC c :=
  ⟨h1, h2, h3, h4, fun i hi => h5 _ (List.getElem_mem hi), fun i hi => h6 _ (List.getElem_mem hi)⟩
theorem start_bad (n : Nat) (u : UnitS) (h : rightU u = false) : m_conf_Start (n + 2) u = some (zeroC, 8) := by
  simp only [m_conf_Start, m_lower_Right, h, Option.bind_some, cond_false]
  rfl
end Go.Proofs.Ytejkhpgahnncnaa
end

section
namespace Go.Proofs.Ytejkhpgahnncnaa
set_option linter.unusedVariables false
set_option linter.unusedSimpArgs false

def eqAt {α : Type} [BEq α] (a b : List α) (i : Nat) : Bool := match a[i]?, b[i]? with
  | some x, some y => x == y
  | _, _ => false
theorem eqAt_all {α : Type} [BEq α] [LawfulBEq α] {a b : List α} (h : a.length = b.length) : (List.range' 0 a.length).all (eqAt a b) = (a == b) := by
  rw [Bool.eq_iff_iff, beq_iff_eq]
  constructor
  · intro hh
    apply List.ext_getElem h
    intro i h1 h2
    have := of_all_range hh h1
    simpa [eqAt, List.getElem?_eq_getElem h1, List.getElem?_eq_getElem h2] using this
  · rintro rfl
    refine all_range_true fun i hi => ?_
    simp [eqAt, List.getElem?_eq_getElem hi]
theorem beq_len {α : Type} [BEq α] [LawfulBEq α] {a b : List α} (h : (a.length == b.length) = false) : (a == b) = false := by
  rw [beq_eq_false_iff_ne] at h ⊢
  rintro rfl
  exact h rfl
theorem ints_m (n : Nat) (a b : List Int) (hn : a.length + 1 < n) (ha : a.length ≤ 1000000) : m_ref07_Ints n a b = some (a == b) := by
  obtain ⟨n, rfl⟩ : ∃ j, n = j + 1 := ⟨n - 1, by omega⟩
  simp only [m_ref07_Ints, natNe]
  cases hl : a.length == b.length with
  | false => rw [beq_len hl]; rfl
  | true =>
    have hl := eq_of_beq hl
    have hL : ref07_Ints_L0 n a b n 0 = some (bif (List.range' 0 a.length).all (eqAt a b) then .out () else .ret false) := by
      refine all_loop0 (L := fun k i => ref07_Ints_L0 n a b k i) a.length _ (fun k i hi => ?_) (fun k => ?_) (by omega)
      · have hlen : (i : Int) < (a.length : Int) := by omega
        have hi2 : i < b.length := by omega
        simp only [ref07_Ints_L0, bif_decide hlen, idx_get hi, idx_get hi2, Option.bind_some, wrap_one i (by omega), eqAt, List.getElem?_eq_getElem hi, List.getElem?_eq_getElem hi2, bne]
        cases a[i] == b[i] <;> rfl
      · simp only [ref07_Ints_L0, bif_not (Int.lt_irrefl _)]
    simp only [Bool.not_true, cond_false, hL, Option.bind_some, eqAt_all hl]
    cases a == b <;> rfl
theorem bsame_m (n : Nat) (a b : List EntryS) (hn : a.length + 1 < n) (ha : a.length ≤ 1000000) : m_ref08_Same n a b = some (a == b) := by
  obtain ⟨n, rfl⟩ : ∃ j, n = j + 1 := ⟨n - 1, by omega⟩
  simp only [m_ref08_Same, natNe]
  cases hl : a.length == b.length with
  | false => rw [beq_len hl]; rfl
  | true =>
    have hl := eq_of_beq hl
    have hL : ref08_Same_L0 n a b n 0 = some (bif (List.range' 0 a.length).all (eqAt a b) then .out () else .ret false) := by
      refine all_loop0 (L := fun k i => ref08_Same_L0 n a b k i) a.length _ (fun k i hi => ?_) (fun k => ?_) (by omega)
      · have hlen : (i : Int) < (a.length : Int) := by omega
        have hi2 : i < b.length := by omega
        have e : ∀ x y : EntryS, ((x.loc == y.loc) && ((x.n == y.n) && true)) = (x == y) := by
          intro x y
          rw [Bool.eq_iff_iff]
          cases x; cases y
          simp
        simp only [ref08_Same_L0, bif_decide hlen, idx_get hi, idx_get hi2, Option.bind_some, wrap_one i (by omega), eqAt, List.getElem?_eq_getElem hi, List.getElem?_eq_getElem hi2, e]
      · simp only [ref08_Same_L0, bif_not (Int.lt_irrefl _)]
    simp only [Bool.not_true, cond_false, hL, Option.bind_some, eqAt_all hl]
    cases a == b <;> rfl
theorem same_m (n : Nat) (a b : ConfS) (hn : 500 < n) (ha : LightC a) : m_ref09_Same n a b = some (a == b) := by
  obtain ⟨n, rfl⟩ : ∃ j, n = j + 1 := ⟨n - 1, by omega⟩
  have := ha.pc; have := ha.mem; have := ha.regsN; have := ha.bufN
  have hE : (a == b) = ((a.pc == b.pc) && ((a.mem == b.mem) && ((a.regs == b.regs) && (a.buf == b.buf)))) := by
    rw [Bool.eq_iff_iff]
    cases a; cases b
    simp only [beq_iff_eq, Bool.and_eq_true, ConfS.mk.injEq]
    constructor
    · rintro ⟨h1, h2, h3, h4⟩; exact ⟨h1, h3, h2, h4⟩
    · rintro ⟨h1, h2, h3, h4⟩; exact ⟨h1, h3, h2, h4⟩
  simp only [m_ref09_Same, ints_m n a.pc b.pc (by omega) (by omega), ints_m n a.mem b.mem (by omega) (by omega), Option.bind_some, natNe, hE]
  cases a.pc == b.pc with
  | false => rfl
  | true =>
  cases a.mem == b.mem with
  | false => rfl
  | true =>
  cases h1 : a.regs.length == b.regs.length with
  | false => rw [beq_len h1]; rfl
  | true =>
  cases h2 : a.buf.length == b.buf.length with
  | false => rw [beq_len h2]; simp
  | true =>
  have h1 := eq_of_beq h1
  have h2 := eq_of_beq h2
  have hL0 : ref09_Same_L0 n a b n 0 = some (bif (List.range' 0 a.regs.length).all (eqAt a.regs b.regs) then .out () else .ret false) := by
    refine all_loop0 (L := fun k i => ref09_Same_L0 n a b k i) a.regs.length _ (fun k i hi => ?_) (fun k => ?_) (by omega)
    · have hlen : (i : Int) < (a.regs.length : Int) := by omega
      have hi2 : i < b.regs.length := by omega
      have := ha.regs i hi
      simp only [ref09_Same_L0, bif_decide hlen, idx_get hi, idx_get hi2, Option.bind_some, wrap_one i (by omega), eqAt, List.getElem?_eq_getElem hi, List.getElem?_eq_getElem hi2, ints_m n a.regs[i] b.regs[i] (by omega) (by omega)]
    · simp only [ref09_Same_L0, bif_not (Int.lt_irrefl _)]
  have hL1 : ref09_Same_L1 n a b n 0 = some (bif (List.range' 0 a.buf.length).all (eqAt a.buf b.buf) then .out () else .ret false) := by
    refine all_loop0 (L := fun k i => ref09_Same_L1 n a b k i) a.buf.length _ (fun k i hi => ?_) (fun k => ?_) (by omega)
    · have hlen : (i : Int) < (a.buf.length : Int) := by omega
      have hi2 : i < b.buf.length := by omega
      have := ha.buf i hi
      simp only [ref09_Same_L1, bif_decide hlen, idx_get hi, idx_get hi2, Option.bind_some, wrap_one i (by omega), eqAt, List.getElem?_eq_getElem hi, List.getElem?_eq_getElem hi2, bsame_m n a.buf[i] b.buf[i] (by omega) (by omega)]
    · simp only [ref09_Same_L1, bif_not (Int.lt_irrefl _)]
  simp only [cond_true, Bool.not_true, cond_false, hL0, hL1, Option.bind_some, eqAt_all h1, eqAt_all h2, Bool.true_and]
  cases a.regs == b.regs <;> cases a.buf == b.buf <;> rfl

theorem zeroC_light : LightC zeroC := light_mono (by decide) (by decide) (by decide) (by decide) (by simp [zeroC]) (by simp [zeroC])
end Go.Proofs.Ytejkhpgahnncnaa
end

section
namespace Go.Proofs.Ytejkhpgahnncnaa
set_option linter.unusedVariables false
set_option linter.unusedSimpArgs false

theorem startR_L (n : Nat) (u : UnitS) (hr : ∀ i (h : i < u.regs.length), 0 ≤ u.regs[i] ∧ u.regs[i] ≤ 6) (hN : u.regs.length ≤ 4) : ∀ (m k i : Nat) (a : List Int) (b : List (List Int)) (c : List (List EntryS)), i + m = u.regs.length → m < k → a.length = i → b.length = i → c.length = i →
    ref09_Start_L0 n u k (i : Int) a b c = some (.out (a ++ List.replicate m 0, b ++ (u.regs.drop i).map (fun r => List.replicate r.toNat 0), c ++ List.replicate m [])) := by
  intro m
  induction m with
  | zero =>
    intro k i a b c hi hk ha hb hc
    obtain ⟨k, rfl⟩ : ∃ j, k = j + 1 := ⟨k - 1, by omega⟩
    have hd : u.regs.drop i = [] := List.drop_of_length_le (by omega)
    have hge : ¬ ((i : Int) < (u.regs.length : Int)) := by omega
    rw [ref09_Start_L0, bif_not hge, hd]
    simp
  | succ m ih =>
    intro k i a b c hi hk ha hb hc
    obtain ⟨k, rfl⟩ : ∃ j, k = j + 1 := ⟨k - 1, by omega⟩
    have hlt : i < u.regs.length := by omega
    have hlt' : (i : Int) < (u.regs.length : Int) := by omega
    have hx := hr i hlt
    have c1 : (decide (0 ≤ u.regs[i]) && decide ((8 : Int) * u.regs[i] ≤ 140737488355328)) = true := by
      rw [decide_eq_true hx.1, decide_eq_true (by omega)]; rfl
    have c0 : (a.length + 1) * 9 ≤ 140737488355328 := by omega
    have c2 : (b.length + 1) * 25 ≤ 140737488355328 := by omega
    have c3 : (c.length + 1) * 25 ≤ 140737488355328 := by omega
    rw [ref09_Start_L0, bif_decide hlt', bif_decide c0, idx_get hlt, List.drop_eq_getElem_cons hlt]
    have w1 := wrap_one i (by omega)
    simp only [Option.bind_some, c1, cond_true, bif_decide c2, bif_decide c3, w1]
    rw [ih k (i + 1) _ _ _ (by omega) (by omega) (by simp [ha]) (by simp [hb]) (by simp [hc])]
    simp only [List.map_cons, List.append_assoc, List.cons_append, List.nil_append, List.replicate_succ]
theorem start_r (n : Nat) (u : UnitS) (h : rightU u = true) (hn : 20 < n) : m_ref09_Start n u = some (startC u, 0) := by
  obtain ⟨n, rfl⟩ : ∃ j, n = j + 2 := ⟨n - 2, by omega⟩
  obtain ⟨u1, u2, u3, u4⟩ := rightU_len h
  have hr : ∀ i (h : i < u.regs.length), 0 ≤ u.regs[i] ∧ u.regs[i] ≤ 6 := fun i hi => (rightU_thread h i hi (by omega)).1
  have hL := startR_L (n + 1) u hr u3 u.regs.length (n + 1) 0 [] [] [] (by omega) (by omega) rfl rfl rfl
  have hL : ref09_Start_L0 (n + 1) u (n + 1) 0 [] [] [] = _ := hL
  have c2 : (([] : List Int).length + u.init.length) * 9 ≤ 140737488355328 := by simp; omega
  simp only [m_ref09_Start, m_ref07_Right, h, Option.bind_some, cond_true, hL, bif_decide c2]
  simp [startC]
theorem start_rbad (n : Nat) (u : UnitS) (h : rightU u = false) : m_ref09_Start (n + 2) u = some (zeroC, 8) := by
  simp only [m_ref09_Start, m_ref07_Right, h, Option.bind_some, cond_false]
  rfl
theorem startC_light (u : UnitS) (h : rightU u = true) : LightC (startC u) := by
  obtain ⟨u1, u2, u3, u4⟩ := rightU_len h
  have hr : ∀ i (h : i < u.regs.length), 0 ≤ u.regs[i] ∧ u.regs[i] ≤ 6 := fun i hi => (rightU_thread h i hi (by omega)).1
  refine light_mono ?_ ?_ ?_ ?_ ?_ ?_
  · simp [startC]; omega
  · simp [startC]; omega
  · simp [startC]; omega
  · simp [startC]; omega
  · intro r hx
    simp only [startC, List.mem_map] at hx
    obtain ⟨x, hx, rfl⟩ := hx
    obtain ⟨i, hi, rfl⟩ := List.getElem_of_mem hx
    have := hr i hi
    simp; omega
  · intro b hb
    simp only [startC, List.mem_replicate] at hb
    rw [hb.2]; simp
end Go.Proofs.Ytejkhpgahnncnaa
end

section
namespace Go.Proofs.Ytejkhpgahnncnaa
open Go.RowKit
set_option linter.unusedVariables false
set_option linter.unusedSimpArgs false

def startOwn (u : UnitS) : AV × Hp := (.tup [.agg [.sl 1 ((startC u).pc.map encI), .sl 1 ((startC u).regs.map encRow), .own 0 0 u.init.length, .sl 1 ((startC u).buf.map encBuf)], .int .i64 0], [.arr 1 (u.init.map encI)])
def startO (u : UnitS) : AV × Hp := bif rightU u && decide (0 < u.init.length) then startOwn u else (bif rightU u then (.tup [aC (startC u), .int .i64 0], []) else (.tup [aC zeroC, .int .i64 8], []))
open Classical in
noncomputable def yStart (args : List AV) : Option (AV × Hp) := if h : ∃ u : UnitS, args = [aU u] then some (startO h.choose) else none
theorem yStart_eq (u : UnitS) : yStart [aU u] = some (startO u) := by
  have h : ∃ u' : UnitS, [aU u] = [aU u'] := ⟨u, rfl⟩
  unfold yStart
  rw [dif_pos h]
  have := h.choose_spec
  rw [← aU_inj _ _ (List.cons.inj this).1]
noncomputable def yT : ExtO := fun st g => bif st && g == 12 then some yStart else none
theorem startO_sound (u : UnitS) (base : Nat) (S : Nat → Nat → Prop) (w : World) (vs : List Value) (hs : Sim Try.prog base S w [] []) (hr : Reps S w [] [] [aU u] vs) :
    Calls Try.prog 12 vs.toArray w fun e w' => ∃ x S' φ', e = .returned x ∧ Rep S' w' (startO u).2 φ' (startO u).1 x ∧ Sim Try.prog base S' w' (startO u).2 φ' ∧ Trans base S w [] [] S' w' (startO u).2 φ' := by
  have closed : ∀ r : ConfS × Int, m_conf_Start 30 u = some r → startO u = (.tup [aC r.1, .int .i64 r.2], []) → Calls Try.prog 12 vs.toArray w fun e w' => ∃ x S' φ', e = .returned x ∧ Rep S' w' (startO u).2 φ' (startO u).1 x ∧ Sim Try.prog base S' w' (startO u).2 φ' ∧ Trans base S w [] [] S' w' (startO u).2 φ' := by
    intro r h e
    rw [e]
    exact cN_sound XT_sound 30 false 12 [aU u] [] _ _ (ok_conf_Start h) base S w [] vs hs hr
  cases hri : rightU u with
  | false => exact closed _ (start_bad 28 u hri) (by simp [startO, hri])
  | true =>
    by_cases hp : 0 < u.init.length
    · have e : startO u = startOwn u := by simp [startO, hri, hp]
      rw [e]
      cases hr with
      | cons _ _ _ v _ vs h0 ht =>
        cases ht
        have hS0 : ∀ b o, S b o → ∃ x, stay w b o = some x := fun b o h => let ⟨x, hx, _⟩ := hs.cell b o h; ⟨x, hx⟩
        refine (cstart_any u v w S hS0 h0 (dec_unitV S w v u h0) hri hp).mono ?_
        rintro e w' ⟨hb, vp, vr, vb, g, cap, S1, rfl, hi⟩
        have hext : SExt S w (fun b o => S b o ∨ (S1 b o ∧ w.heap.size ≤ b)) w' := fun b o h => ⟨.inl h, stay_below hb (hS0 b o h)⟩
        have hup : SExt S1 w' (fun b o => S b o ∨ (S1 b o ∧ w.heap.size ≤ b)) w' := fun b o h => ⟨(hi.new b o h).elim .inl fun h' => .inr ⟨h, h'⟩, rfl⟩
        have hup0 : ∀ {a v}, Rep S1 w' [] [] a v → Rep (fun b o => S b o ∨ (S1 b o ∧ w.heap.size ≤ b)) w' (startOwn u).2 [.ofs g 0] a v := fun h => (Rep.mono hup h (.refl _ _)).lift
        obtain ⟨ex, E, hm⟩ := hi.mem
        refine ⟨_, fun b o => S b o ∨ (S1 b o ∧ w.heap.size ≤ b), [.ofs g 0], rfl, ?_, ⟨rfl, Nat.le_trans hs.low hb.size, ?_, ?_, ?_⟩, ⟨hext, ⟨fun _ _ _ h => by simp at h, fun _ _ _ h => by simp [nth?] at h, fun _ _ _ _ h => by simp [nth?] at h, fun _ _ _ _ _ h => by simp [nth?] at h⟩, hb.mono hs.low, ?_, ?_, ?_, ?_⟩⟩
        · refine .tup _ _ _ _ (.cons _ _ _ _ _ _ (.agg _ _ _ [vp, vr, .slice (some ⟨g, 0, none⟩) u.init.length cap, vb] (.cons _ _ _ _ _ _ (hup0 hi.pc) (.cons _ _ _ _ _ _ (hup0 hi.regs) (.cons _ _ _ _ _ _ ?_ (.cons _ _ _ _ _ _ (hup0 hi.buf) (.nil _ _))))) ?_) (.cons _ _ _ _ _ _ (.int _ _ _ _ (by decide)) (.nil _ _)))
          · exact .own _ _ 0 0 u.init.length g 1 (u.init.map encI) cap 0 rfl rfl (by simp) _ (fun _ => rfl) ⟨hi.cap.1, hi.cap.2, fun h => by cases h⟩
          · intro x hx
            simp only [List.mem_cons, List.not_mem_nil, or_false] at hx
            rcases hx with rfl | rfl | rfl | rfl
            · exact hi.one.1
            · exact hi.one.2.1
            · rfl
            · exact hi.one.2.2
        · rintro b o (h | ⟨h, h'⟩)
          · obtain ⟨x, hx, hf⟩ := hs.cell b o h
            exact ⟨x, (stay_below hb ⟨x, hx⟩).trans hx, hf⟩
          · obtain ⟨x, hx, hf⟩ := hi.stays b o h
            exact ⟨x, hx, fun _ => hf h'⟩
        · intro id o ho
          cases id with
          | succ id => simp [startOwn] at ho
          | zero =>
            cases ho
            refine ⟨g, u.init.map fun x => [Value.int .i64 x], ex, E, [], rfl, Nat.le_trans hs.low hi.low, ?_, ?_, ?_, ?_⟩
            · rw [flat_ints, List.nil_append]; exact hm
            · refine repss_of (by simp) fun k el vs e1 e2 => ?_
              rw [List.getElem?_map] at e1 e2
              cases hk : u.init[k]? with
              | none => rw [hk] at e1; cases e1
              | some y =>
                rw [hk] at e1 e2
                cases e1; cases e2
                exact ⟨.cons _ _ _ _ _ _ (.int _ _ _ _ (hi.wf y (List.mem_of_getElem? hk))) (.nil _ _), by intro v hv; simp at hv; subst hv; rfl⟩
            · intro vs hv
              obtain ⟨y, _, rfl⟩ := List.mem_map.1 hv
              rfl
            · rintro o (h | ⟨h, _⟩)
              · obtain ⟨x, hx⟩ := hS0 _ _ h
                exact absurd (cell_lt hx) (by have := hi.low; omega)
              · exact hi.not o h
        · intro i j b hi hj
          cases i with
          | succ i => simp [blockAt] at hi
          | zero =>
            cases j with
            | succ j => simp [blockAt] at hj
            | zero => rfl
        · rintro b o (h | ⟨_, h⟩)
          · exact .inl h
          · exact .inr (Nat.le_trans hs.low h)
        · rintro b o (h | ⟨_, h⟩)
          · exact .inl h
          · exact .inr (.inr h)
        · intro i b hib
          cases i with
          | succ i => simp [blockAt] at hib
          | zero =>
            simp [blockAt] at hib
            subst hib
            exact .inr hi.low
        · intro b hbm
          refine hb.block b ?_
          rcases Nat.lt_or_ge b w.heap.size with h | h
          · exact h
          · exact absurd (.inr h) hbm
    · exact closed _ (start_m 30 u hri (by decide)) (by simp [startO, hri, hp])
theorem yT_sound : SoundExtO Try.prog yT := by
  intro st g k hk args v hp' h base S w vs hs hr
  unfold yT at hk
  cases st with
  | false => cases hk
  | true =>
    cases hg : g == 12 with
    | false => rw [hg] at hk; cases hk
    | true =>
      rw [hg] at hk
      obtain rfl := Option.some.inj hk
      obtain rfl : g = _ := by simpa using hg
      by_cases hu : ∃ u : UnitS, args = [aU u]
      · obtain ⟨u, rfl⟩ := hu
        rw [yStart_eq u] at h
        have e := Option.some.inj h
        have := startO_sound u base S w vs hs hr
        rw [e] at this
        exact this
      · unfold yStart at h
        rw [dif_neg hu] at h
        cases h
end Go.Proofs.Ytejkhpgahnncnaa
end

section
namespace Go.Proofs.Ytejkhpgahnncnaa
set_option linter.unusedVariables false
set_option linter.unusedSimpArgs false
set_option maxRecDepth 100000
set_option maxHeartbeats 4000000

theorem ok_ref07_Ints {n:Nat} ⦃v0_a:(List Int)⦄ ⦃v1_b:(List Int)⦄ ⦃r:Bool⦄:m_ref07_Ints n v0_a v1_b=some r→CN n 36 [AV.sl 1 (List.map encI v0_a),AV.sl 1 (List.map encI v1_b)] []=some (bA r,[]):=by
 intro h;rcases n with _|n;cases h
 rw [m_ref07_Ints] at h
 refine callN_eq' Try.func36 (by rfl) rfl rfl (Nat.le_of_ble_eq_true rfl) ?_
 intro call hc;conv=>lhs;whnf
 revert h
 refine br ?_ ?_
 exact rz
 intro h;refine bind_some2 h ?_;clear h;intro o10 ho10 h
 refine lq (σ:=Int) (τ:=Unit) (ν:=Bool) 0 (fun s2 a4=>stOf 26 [(0,AV.sl 1 (List.map encI v0_a)),(1,AV.sl 1 (List.map encI v1_b)),(5,iA s2)]) (fun s2 a4=>[]) (fun _ a15=>stOf 26 []) (fun _ a15=>[]) (fun v=>(bA v,[])) (fun k s=>ref07_Ints_L0 n v0_a v1_b k s) (fun s=>rfl) o10 n 0 (fun _=>0) ho10 ?_ ?_
 intro k3 s2 a4 K5 cont6 hK7 hcont8 h hr9
 replace h:ref07_Ints_L0 n v0_a v1_b (k3+1) s2=some o10:=h
 rw [ref07_Ints_L0] at h
 conv=>lhs;whnf
 revert h
 refine br ?_ ?_
 refine ix ?_;intro x12
 refine ix ?_;intro x13
 refine br ?_ ?_
 intro h;cases sj h
 refine (hK7 _ _).trans ?_
 refine Eq.trans ?_ (Eq.symm (show _=some _ from hr9))
 conv=>lhs;whnf
 exact rq
 exact fun h=>cq (hcont8 (IntKind.i64.wrap (s2+1)) (fun _=>0) h)
 intro h;cases sj h
 exact kq (hr9 (fun _=>0))
 refine lrc ?_ ?_
 intro v e;subst e;cases sj h;rfl
 intro t a15 e;subst e
 dsimp only at h
 conv=>lhs;whnf
 revert h
 exact rz
end Go.Proofs.Ytejkhpgahnncnaa
end

section
namespace Go.Proofs.Ytejkhpgahnncnaa
set_option linter.unusedVariables false
set_option linter.unusedSimpArgs false
set_option maxRecDepth 100000
set_option maxHeartbeats 4000000

theorem ok_ref08_Same {n:Nat} ⦃v0_a:(List EntryS)⦄ ⦃v1_b:(List EntryS)⦄ ⦃r:Bool⦄:m_ref08_Same n v0_a v1_b=some r→CN n 37 [AV.sl 2 (List.map encE v0_a),AV.sl 2 (List.map encE v1_b)] []=some (bA r,[]):=by
 intro h;rcases n with _|n;cases h
 rw [m_ref08_Same] at h
 refine callN_eq' Try.func37 (by rfl) rfl rfl (Nat.le_of_ble_eq_true rfl) ?_
 intro call hc;conv=>lhs;whnf
 revert h
 refine br ?_ ?_
 exact rz
 intro h;refine bind_some2 h ?_;clear h;intro o10 ho10 h
 refine lq (σ:=Int) (τ:=Unit) (ν:=Bool) 0 (fun s2 a4=>stOf 26 [(0,AV.sl 2 (List.map encE v0_a)),(1,AV.sl 2 (List.map encE v1_b)),(5,iA s2)]) (fun s2 a4=>[]) (fun _ a16=>stOf 26 []) (fun _ a16=>[]) (fun v=>(bA v,[])) (fun k s=>ref08_Same_L0 n v0_a v1_b k s) (fun s=>rfl) o10 n 0 (fun _=>0) ho10 ?_ ?_
 intro k3 s2 a4 K5 cont6 hK7 hcont8 h hr9
 replace h:ref08_Same_L0 n v0_a v1_b (k3+1) s2=some o10:=h
 rw [ref08_Same_L0] at h
 conv=>lhs;whnf
 revert h
 refine br ?_ ?_
 refine ix ?_;intro x12
 refine ix ?_;intro x13
 intro h
 have hf15:flatT Try.prog 40=some (fieldsOf Try.prog 40):=by kernel_rfl
 simp only [hf15,List.length_map,take_map_len]
 conv=>lhs;whnf
 revert h
 refine br ?_ ?_
 exact fun h=>cq (hcont8 (IntKind.i64.wrap (s2+1)) (fun _=>0) h)
 intro h;cases sj h
 refine (hK7 _ _).trans ?_
 refine Eq.trans ?_ (Eq.symm (show _=some _ from hr9))
 conv=>lhs;whnf
 exact rq
 intro h;cases sj h
 exact kq (hr9 (fun _=>0))
 refine lrc ?_ ?_
 intro v e;subst e;cases sj h;rfl
 intro t a16 e;subst e
 dsimp only at h
 conv=>lhs;whnf
 revert h
 exact rz
end Go.Proofs.Ytejkhpgahnncnaa
end

section
namespace Go.Proofs.Ytejkhpgahnncnaa
set_option linter.unusedVariables false
set_option linter.unusedSimpArgs false
set_option maxRecDepth 100000
set_option maxHeartbeats 4000000

theorem ok_ref09_Same {n:Nat} ⦃v0_a:ConfS⦄ ⦃v1_b:ConfS⦄ ⦃r:Bool⦄:m_ref09_Same n v0_a v1_b=some r→CN n 14 [AV.agg [AV.sl 1 (List.map encI (v0_a.pc)),AV.sl 1 (List.map encRow (v0_a.regs)),AV.sl 1 (List.map encI (v0_a.mem)),AV.sl 1 (List.map encBuf (v0_a.buf))],AV.agg [AV.sl 1 (List.map encI (v1_b.pc)),AV.sl 1 (List.map encRow (v1_b.regs)),AV.sl 1 (List.map encI (v1_b.mem)),AV.sl 1 (List.map encBuf (v1_b.buf))]] []=some (bA r,[]):=by
 intro h;rcases n with _|n;cases h
 rw [m_ref09_Same] at h
 refine callN_eq' Try.func14 (by rfl) rfl rfl (Nat.le_of_ble_eq_true rfl) ?_
 intro call hc;conv=>lhs;whnf
 revert h
 refine ca hc (fun _ h=>ok_ref07_Ints h) ?_;intro y1
 refine br ?_ ?_
 refine ca hc (fun _ h=>ok_ref07_Ints h) ?_;intro y4
 refine br ?_ ?_
 refine br ?_ ?_
 exact rz
 refine br ?_ ?_
 exact rz
 intro h;refine bind_some2 h ?_;clear h;intro o17 ho17 h
 refine lq (σ:=Int) (τ:=Unit) (ν:=Bool) 0 (fun s9 a11=>stOf 77 [(2,AV.ptr 0 0),(3,AV.ptr 1 0),(5,iA s9)]) (fun s9 a11=>[Ob.var 31 [AV.sl 1 (List.map encI (v0_a.pc)),AV.sl 1 (List.map encRow (v0_a.regs)),AV.sl 1 (List.map encI (v0_a.mem)),AV.sl 1 (List.map encBuf (v0_a.buf))],Ob.var 31 [AV.sl 1 (List.map encI (v1_b.pc)),AV.sl 1 (List.map encRow (v1_b.regs)),AV.sl 1 (List.map encI (v1_b.mem)),AV.sl 1 (List.map encBuf (v1_b.buf))]]) (fun _ a24=>stOf 77 [(2,AV.ptr 0 0),(3,AV.ptr 1 0)]) (fun _ a24=>[Ob.var 31 [AV.sl 1 (List.map encI (v0_a.pc)),AV.sl 1 (List.map encRow (v0_a.regs)),AV.sl 1 (List.map encI (v0_a.mem)),AV.sl 1 (List.map encBuf (v0_a.buf))],Ob.var 31 [AV.sl 1 (List.map encI (v1_b.pc)),AV.sl 1 (List.map encRow (v1_b.regs)),AV.sl 1 (List.map encI (v1_b.mem)),AV.sl 1 (List.map encBuf (v1_b.buf))]]) (fun v=>(bA v,[])) (fun k s=>ref09_Same_L0 n v0_a v1_b k s) (fun s=>rfl) o17 n 0 (fun _=>0) ho17 ?_ ?_
 intro k10 s9 a11 K12 cont13 hK14 hcont15 h hr16
 replace h:ref09_Same_L0 n v0_a v1_b (k10+1) s9=some o17:=h
 rw [ref09_Same_L0] at h
 conv=>lhs;whnf
 revert h
 refine br ?_ ?_
 refine ix ?_;intro x19
 refine ix ?_;intro x20
 refine ca hc (fun _ h=>ok_ref07_Ints h) ?_;intro y21
 refine br ?_ ?_
 exact fun h=>cq (hcont15 (IntKind.i64.wrap (s9+1)) (fun _=>0) h)
 intro h;cases sj h
 refine (hK14 _ _).trans ?_
 refine Eq.trans ?_ (Eq.symm (show _=some _ from hr16))
 conv=>lhs;whnf
 exact rq
 intro h;cases sj h
 exact kq (hr16 (fun _=>0))
 refine lrc ?_ ?_
 intro v e;subst e;cases sj h;rfl
 intro t a24 e;subst e
 dsimp only at h
 conv=>lhs;whnf
 revert h
 intro h;refine bind_some2 h ?_;clear h;intro o33 ho33 h
 refine lq (σ:=Int) (τ:=Unit) (ν:=Bool) 2 (fun s25 a27=>stOf 77 [(2,AV.ptr 0 0),(3,AV.ptr 1 0),(6,iA s25)]) (fun s25 a27=>[Ob.var 31 [AV.sl 1 (List.map encI (v0_a.pc)),AV.sl 1 (List.map encRow (v0_a.regs)),AV.sl 1 (List.map encI (v0_a.mem)),AV.sl 1 (List.map encBuf (v0_a.buf))],Ob.var 31 [AV.sl 1 (List.map encI (v1_b.pc)),AV.sl 1 (List.map encRow (v1_b.regs)),AV.sl 1 (List.map encI (v1_b.mem)),AV.sl 1 (List.map encBuf (v1_b.buf))]]) (fun _ a40=>stOf 77 []) (fun _ a40=>[Ob.var 31 [AV.sl 1 (List.map encI (v0_a.pc)),AV.sl 1 (List.map encRow (v0_a.regs)),AV.sl 1 (List.map encI (v0_a.mem)),AV.sl 1 (List.map encBuf (v0_a.buf))],Ob.var 31 [AV.sl 1 (List.map encI (v1_b.pc)),AV.sl 1 (List.map encRow (v1_b.regs)),AV.sl 1 (List.map encI (v1_b.mem)),AV.sl 1 (List.map encBuf (v1_b.buf))]]) (fun v=>(bA v,[])) (fun k s=>ref09_Same_L1 n v0_a v1_b k s) (fun s=>rfl) o33 n 0 (fun _=>0) ho33 ?_ ?_
 intro k26 s25 a27 K28 cont29 hK30 hcont31 h hr32
 replace h:ref09_Same_L1 n v0_a v1_b (k26+1) s25=some o33:=h
 rw [ref09_Same_L1] at h
 conv=>lhs;whnf
 revert h
 refine br ?_ ?_
 refine ix ?_;intro x35
 refine ix ?_;intro x36
 refine ca hc (fun _ h=>ok_ref08_Same h) ?_;intro y37
 refine br ?_ ?_
 exact fun h=>cq (hcont31 (IntKind.i64.wrap (s25+1)) (fun _=>0) h)
 intro h;cases sj h
 refine (hK30 _ _).trans ?_
 refine Eq.trans ?_ (Eq.symm (show _=some _ from hr32))
 conv=>lhs;whnf
 exact rq
 intro h;cases sj h
 exact kq (hr32 (fun _=>0))
 refine lrc ?_ ?_
 intro v e;subst e;cases sj h;rfl
 intro t a40 e;subst e
 dsimp only at h
 conv=>lhs;whnf
 revert h
 exact rz
 exact rz
 exact rz

theorem ok_ref09_Start {n:Nat} ⦃v0_u:UnitS⦄ ⦃r:(ConfS×Int)⦄:m_ref09_Start n v0_u=some r→CN n 13 [AV.agg [iA (v0_u.mod),AV.sl 1 (List.map encI (v0_u.init)),AV.sl 1 (List.map encI (v0_u.regs)),AV.sl 1 (List.map encThr (v0_u.code))]] []=some (AV.tup [AV.agg [AV.sl 1 (List.map encI (r.1.pc)),AV.sl 1 (List.map encRow (r.1.regs)),AV.sl 1 (List.map encI (r.1.mem)),AV.sl 1 (List.map encBuf (r.1.buf))],iA r.2],[]):=by
 intro h;rcases n with _|n;cases h
 rw [m_ref09_Start] at h
 refine callN_eq' Try.func13 (by rfl) rfl rfl (Nat.le_of_ble_eq_true rfl) ?_
 intro call hc;conv=>lhs;whnf
 revert h
 refine ca hc (fun _ h=>ok_ref07_Right h) ?_;intro y1
 refine br ?_ ?_
 intro h;refine bind_some2 h ?_;clear h;intro o15 ho15 h
 refine lq (σ:=(Int×(List Int)×(List (List Int))×(List (List EntryS)))) (τ:=((List Int)×(List (List Int))×(List (List EntryS)))) (ν:=(ConfS×Int)) 0 (fun (s4,s5,s6,s7) a9=>stOf 46 [(1,AV.ptr 0 0),(2,AV.ptr 1 0),(4,AV.ptr 2 0),(5,iA s4)]) (fun (s4,s5,s6,s7) a9=>[Ob.var 25 [iA (v0_u.mod),AV.sl 1 (List.map encI (v0_u.init)),AV.sl 1 (List.map encI (v0_u.regs)),AV.sl 1 (List.map encThr (v0_u.code))],Ob.var 31 [AV.row 3 (List.length (([]:List Int))),AV.row 4 (List.length (([]:List (List Int)))),AV.row 5 (List.length (([]:List Int))),AV.row 6 (List.length (([]:List (List EntryS))))],Ob.var 31 [AV.row 7 (List.length s5),AV.row 8 (List.length s6),AV.row 9 (List.length (([]:List Int))),AV.row 10 (List.length s7)],Ob.row 3 1 ([]),Ob.row 22 1 ([]),Ob.row 3 1 ([]),Ob.row 38 1 ([]),Ob.row 3 1 (List.map encI s5),Ob.row 22 1 (List.map encRow s6),Ob.row 3 1 ([]),Ob.row 38 1 (List.map encBuf s7)]) (fun (x27,x28,x29) a26=>stOf 46 [(1,AV.ptr 0 0),(2,AV.ptr 1 0),(4,AV.ptr 2 0)]) (fun (x27,x28,x29) a26=>[Ob.var 25 [iA (v0_u.mod),AV.sl 1 (List.map encI (v0_u.init)),AV.sl 1 (List.map encI (v0_u.regs)),AV.sl 1 (List.map encThr (v0_u.code))],Ob.var 31 [AV.row 3 (List.length (([]:List Int))),AV.row 4 (List.length (([]:List (List Int)))),AV.row 5 (List.length (([]:List Int))),AV.row 6 (List.length (([]:List (List EntryS))))],Ob.var 31 [AV.row 7 (List.length x27),AV.row 8 (List.length x28),AV.row 9 (List.length (([]:List Int))),AV.row 10 (List.length x29)],Ob.row 3 1 ([]),Ob.row 22 1 ([]),Ob.row 3 1 ([]),Ob.row 38 1 ([]),Ob.row 3 1 (List.map encI x27),Ob.row 22 1 (List.map encRow x28),Ob.row 3 1 ([]),Ob.row 38 1 (List.map encBuf x29)]) (fun v=>(AV.tup [AV.agg [AV.sl 1 (List.map encI (v.1.pc)),AV.sl 1 (List.map encRow (v.1.regs)),AV.sl 1 (List.map encI (v.1.mem)),AV.sl 1 (List.map encBuf (v.1.buf))],iA v.2],[])) (fun k s=>ref09_Start_L0 n v0_u k s.1 s.2.1 s.2.2.1 s.2.2.2) (fun s=>rfl) o15 n (0,([]:List Int),([]:List (List Int)),([]:List (List EntryS))) (fun _=>0) ho15 ?_ ?_
 intro k8 ss a9 K10 cont11 hK12 hcont13 h hr14
 obtain ⟨s4,s5,s6,s7⟩:=ss
 replace h:ref09_Start_L0 n v0_u (k8+1) s4 s5 s6 s7=some o15:=h
 rw [ref09_Start_L0] at h
 conv=>lhs;whnf
 revert h
 refine br ?_ ?_
 refine ar (ap encI (List.map encI s5) s5 ([[iA (0)]]) ([0]:List Int)) ?_
 refine ix ?_;intro x19
 intro h
 refine chk_some2 h ?_;clear h;intro hc21 h
 try simp only [ls]
 refine bif_pos (by first|exact make_ok (B:=8) hc21 rfl (by kernel_rfl)|exact make_ok2 (B:=8) hc21 (by kernel_rfl)) ?_
 have hr20:List.replicate x19.toNat [iA (0)]=List.map encI (List.replicate x19.toNat 0:List Int):=by rw [List.map_replicate];rfl
 simp only [hr20,ls]
 conv=>lhs;whnf
 revert h
 refine ar (ap encRow (List.map encRow s6) s6 ([[AV.sl 1 (List.map encI ((List.replicate x19.toNat 0:List Int)))]]) ([(List.replicate x19.toNat 0:List Int)]:List (List Int))) ?_
 refine ar (ap encBuf (List.map encBuf s7) s7 ([[AV.sl 2 []]]) ([([]:List EntryS)]:List (List EntryS))) ?_
 exact fun h=>cq (hcont13 (IntKind.i64.wrap (s4+1),(s5++([0]:List Int)),(s6++([(List.replicate x19.toNat 0:List Int)]:List (List Int))),(s7++([([]:List EntryS)]:List (List EntryS)))) (fun _=>0) h)
 intro h;cases sj h
 exact kq (hr14 (fun _=>0))
 refine lrc ?_ ?_
 intro v e;subst e;cases sj h;rfl
 intro t a26 e;subst e
 obtain ⟨x27,x28,x29⟩:=t
 dsimp only at h
 conv=>lhs;whnf
 revert h
 refine ar (ap encI ([]) ([]:List Int) (List.map encI (v0_u.init)) v0_u.init) ?_
 intro h;cases sj h
 try simp only [ls]
 exact fq (y:=some (AV.tup [AV.agg [AV.sl 1 (List.take (List.length x27) (List.map encI x27)),AV.sl 1 (List.take (List.length x28) (List.map encRow x28)),AV.sl 1 (List.take (List.length ((([]:List Int)++v0_u.init))) (List.map encI (([]:List Int)++v0_u.init))),AV.sl 1 (List.take (List.length x29) (List.map encBuf x29))],iA (0)],[]))
 exact rz
end Go.Proofs.Ytejkhpgahnncnaa
end

section
namespace Go.Proofs.Ytejkhpgahnncnaa
set_option linter.unusedVariables false
set_option linter.unusedSimpArgs false
set_option maxRecDepth 100000
set_option maxHeartbeats 4000000

def csL (n : Nat) : Nat → Int → List Int → Option (LR (List Int) Bool)
  | 0,_,_=>none
  | k+1,i,m=>(bif decide (i<((m.length:Nat):Int)) then ((idx m i).bind fun x=>(csL n k (IntKind.i64.wrap (i+1)) (m.set i.toNat 99))) else some (.out m))
def csA (n : Nat) (u : UnitS) : Option Bool :=
  (m_ref07_Light n u).bind fun y1=>(bif y1 then ((m_ref09_Start n u).bind fun y2=>((m_ref09_Same n (⟨(startC u).pc,(startC u).regs,u.init,(startC u).buf⟩:ConfS) y2.1).bind fun y3=>(bif y3 then ((csL n n 0 u.init).bind fun o=>match o with
    |.out x=>((m_conf_Start n u).bind fun y4=>(bif (0==y2.2) then ((m_ref09_Same n y4.1 y2.1).bind fun y5=>(bif y5 then ((m_law09_known n).bind fun y6=>(some y6)) else none)) else none))
    |.ret v=>some v) else none))) else ((m_law09_known n).bind fun y=>(some y)))
def csL0 (n : Nat) : Nat → Int → Option (LR Unit Bool)
  | 0,_=>none
  | k+1,i=>(bif decide (i<((([]:List (List AV)).length:Nat):Int)) then none else (some (.out ())))
def csB (n : Nat) (u : UnitS) (a : ConfS) (e : Int) : Option Bool :=
  (m_ref07_Light n u).bind fun y1=>(bif y1 then ((m_ref09_Start n u).bind fun y2=>((m_ref09_Same n (⟨a.pc,a.regs,([]:List Int),a.buf⟩:ConfS) y2.1).bind fun y3=>(bif y3 then ((csL0 n n 0).bind fun o=>match o with
    |.out _=>((m_conf_Start n u).bind fun y4=>(bif (e==y2.2) then ((m_ref09_Same n y4.1 y2.1).bind fun y5=>(bif y5 then ((m_law09_known n).bind fun y6=>(some y6)) else none)) else none))
    |.ret v=>some v) else none))) else ((m_law09_known n).bind fun y=>(some y)))
theorem lawA {n : Nat} {u : UnitS} {r : Bool} {call0 : CallT} (hc0 : ∀ g l h, call0 false g l h = callN Try.prog HH XT n g l h) (hO0 : call0 true 12 [AV.agg [iA (u.mod),AV.sl 1 (List.map encI (u.init)),AV.sl 1 (List.map encI (u.regs)),AV.sl 1 (List.map encThr (u.code))]] [] = some (startOwn u)) : csA n u = some r →
    runFn Try.prog HH call0 n false 3 [AV.agg [iA (u.mod),AV.sl 1 (List.map encI (u.init)),AV.sl 1 (List.map encI (u.regs)),AV.sl 1 (List.map encThr (u.code))]] [] = some (bA r, []) := by
 intro h
 rw [csA] at h
 refine runFn_eqC Try.func3 (by rfl) rfl (Nat.le_of_ble_eq_true rfl) ?_
 intro call hcall
 have hc:=hc0;have hO:=hO0
 rw [← hcall] at hc hO
 clear hcall hc0 hO0
 conv=>lhs;whnf
 revert h
 refine ca hc (fun _ h=>ok_ref07_Light h) ?_;intro y1
 refine br ?_ ?_
 intro h
 try simp only [ls]
 have hO2:adoCall Try.prog (arrAt HH 3 (some 17)) call 12 [AV.agg [iA (u.mod),AV.sl 1 (List.map encI (u.init)),AV.sl 1 (List.map encI (u.regs)),AV.sl 1 (List.map encThr (u.code))]]=_:=hO
 simp only [hO2,startOwn]
 conv=>lhs;whnf
 revert h
 refine ca hc (fun _ h=>ok_ref09_Start h) ?_;intro y2
 refine cr hc (fun y3 h=>(show CN n 14 [AV.agg [AV.sl 1 (List.map encI ((startC u).pc)),AV.sl 1 (List.map encRow ((startC u).regs)),AV.sl 1 (List.map encI (u.init)),AV.sl 1 (List.map encBuf ((startC u).buf))],AV.agg [AV.sl 1 (List.map encI (y2.1.pc)),AV.sl 1 (List.map encRow (y2.1.regs)),AV.sl 1 (List.map encI (y2.1.mem)),AV.sl 1 (List.map encBuf (y2.1.buf))]] []=some (bA y3,[]) from ok_ref09_Same (r:=y3) h)) ?_;intro y3
 refine br ?_ ?_
 intro h;refine bind_some2 h ?_;clear h;intro o117 ho117 h
 refine lq (σ:=(Int×(List Int))) (τ:=(List Int)) (ν:=Bool) 0 (fun (s108,s109) a111=>stOf 58 [(1,AV.ptr 0 0),(3,AV.ptr 2 0),(5,AV.ptr 3 0),(7,bA ((0==y2.2))),(8,iA s108)]) (fun (s108,s109) a111=>[Ob.var 25 [iA (u.mod),AV.sl 1 (List.map encI (u.init)),AV.sl 1 (List.map encI (u.regs)),AV.sl 1 (List.map encThr (u.code))],Ob.arr 1 (List.map encI s109),Ob.var 31 [AV.sl 1 (List.map encI ((startC u).pc)),AV.sl 1 (List.map encRow ((startC u).regs)),AV.own 1 0 (List.length s109),AV.sl 1 (List.map encBuf ((startC u).buf))],Ob.var 31 [AV.sl 1 (List.map encI (y2.1.pc)),AV.sl 1 (List.map encRow (y2.1.regs)),AV.sl 1 (List.map encI (y2.1.mem)),AV.sl 1 (List.map encBuf (y2.1.buf))]]) (fun x122 a121=>stOf 58 [(1,AV.ptr 0 0),(5,AV.ptr 3 0),(7,bA ((0==y2.2)))]) (fun x122 a121=>[Ob.var 25 [iA (u.mod),AV.sl 1 (List.map encI (u.init)),AV.sl 1 (List.map encI (u.regs)),AV.sl 1 (List.map encThr (u.code))],Ob.arr 1 (List.map encI x122),Ob.var 31 [AV.sl 1 (List.map encI ((startC u).pc)),AV.sl 1 (List.map encRow ((startC u).regs)),AV.own 1 0 (List.length x122),AV.sl 1 (List.map encBuf ((startC u).buf))],Ob.var 31 [AV.sl 1 (List.map encI (y2.1.pc)),AV.sl 1 (List.map encRow (y2.1.regs)),AV.sl 1 (List.map encI (y2.1.mem)),AV.sl 1 (List.map encBuf (y2.1.buf))]]) (fun v=>(bA v,[])) (fun k s=>csL n k s.1 s.2) (fun s=>rfl) o117 n (0,u.init) (fun _=>0) ho117 ?_ ?_
 intro k110 ss a111 K112 cont113 hK114 hcont115 h hr116
 obtain ⟨s108,s109⟩:=ss
 replace h:csL n (k110+1) s108 s109=some o117:=h
 rw [csL] at h
 conv=>lhs;whnf
 revert h
 refine br ?_ ?_
 intro h
 refine bind_some2 h ?_;clear h;intro x119 hx119 h
 try simp only [ls]
 refine bif_pos (by first|exact idx_in hx119|exact idx_in' hx119|exact own_in hx119|exact own_in' hx119|(have q:=idx_in hx119;simp only [List.length_set] at q;exact q)|(have q:=own_in' hx119;simp only [List.length_set,Nat.zero_add] at q ⊢;exact q)) ?_
 conv=>lhs;whnf
 try simp only [Nat.zero_add,idx_nth (f:=encI) hx119,dec_self,ls]
 conv=>lhs;whnf
 revert h
 intro h
 have hs120:setNth (List.map encI s109) s108.toNat [iA (99)]=List.map encI (List.set s109 s108.toNat 99):=by rw [setNth_eq,List.map_set];rfl
 have hs120_u:setNth (List.map encI s109) s108.toNat (updL (encI x119) 0 [iA (99)])=List.map encI (List.set s109 s108.toNat 99):=by rw [setNth_eq,List.map_set];rfl
 try simp only [Nat.zero_add,idx_nth (f:=encI) hx119]
 conv=>lhs;whnf
 try simp only [hs120,hs120_u]
 conv=>lhs;whnf
 revert h
 exact fun h=>cq (hcont115 (IntKind.i64.wrap (s108+1),(List.set s109 s108.toNat 99)) (fun _=>0) h)
 intro h;cases sj h
 exact kq (hr116 (fun _=>0))
 refine lrc ?_ ?_
 intro v e;subst e;cases sj h;rfl
 intro x122 a121 e;subst e
 dsimp only at h
 conv=>lhs;whnf
 revert h
 refine ca hc (fun _ h=>ok_conf_Start h) ?_;intro y4
 refine br ?_ ?_
 refine ca hc (fun _ h=>ok_ref09_Same h) ?_;intro y5
 refine br ?_ ?_
 refine ca hc (fun _ h=>ok_law09_known h) ?_;intro y6
 exact rz
 intro h;cases h
 intro h;cases h
 intro h;cases h
 refine ca hc (fun _ h=>ok_law09_known h) ?_;intro y7
 exact rz
theorem lawB {n : Nat} {u : UnitS} {a : ConfS} {e : Int} {r : Bool} {call0 : CallT} (hc0 : ∀ g l h, call0 false g l h = callN Try.prog HH XT n g l h) (hO0 : call0 true 12 [AV.agg [iA (u.mod),AV.sl 1 (List.map encI (u.init)),AV.sl 1 (List.map encI (u.regs)),AV.sl 1 (List.map encThr (u.code))]] [] = some (.tup [.agg [AV.sl 1 (List.map encI (a.pc)),AV.sl 1 (List.map encRow (a.regs)),AV.sl 1 [],AV.sl 1 (List.map encBuf (a.buf))],iA e], [])) : csB n u a e = some r →
    runFn Try.prog HH call0 n false 3 [AV.agg [iA (u.mod),AV.sl 1 (List.map encI (u.init)),AV.sl 1 (List.map encI (u.regs)),AV.sl 1 (List.map encThr (u.code))]] [] = some (bA r, []) := by
 intro h
 rw [csB] at h
 refine runFn_eqC Try.func3 (by rfl) rfl (Nat.le_of_ble_eq_true rfl) ?_
 intro call hcall
 have hc:=hc0;have hO:=hO0
 rw [← hcall] at hc hO
 clear hcall hc0 hO0
 conv=>lhs;whnf
 revert h
 refine ca hc (fun _ h=>ok_ref07_Light h) ?_;intro y1
 refine br ?_ ?_
 intro h
 try simp only [ls]
 have hO2:adoCall Try.prog (arrAt HH 3 (some 17)) call 12 [AV.agg [iA (u.mod),AV.sl 1 (List.map encI (u.init)),AV.sl 1 (List.map encI (u.regs)),AV.sl 1 (List.map encThr (u.code))]]=_:=hO
 simp only [hO2]
 conv=>lhs;whnf
 revert h
 refine ca hc (fun _ h=>ok_ref09_Start h) ?_;intro y2
 refine cr hc (fun y3 h=>(show CN n 14 [AV.agg [AV.sl 1 (List.map encI (a.pc)),AV.sl 1 (List.map encRow (a.regs)),AV.sl 1 [],AV.sl 1 (List.map encBuf (a.buf))],AV.agg [AV.sl 1 (List.map encI (y2.1.pc)),AV.sl 1 (List.map encRow (y2.1.regs)),AV.sl 1 (List.map encI (y2.1.mem)),AV.sl 1 (List.map encBuf (y2.1.buf))]] []=some (bA y3,[]) from ok_ref09_Same (r:=y3) h)) ?_;intro y3
 refine br ?_ ?_
 intro h;refine bind_some2 h ?_;clear h;intro o117 ho117 h
 refine lq (σ:=Int) (τ:=Unit) (ν:=Bool) 0 (fun s156 a158=>stOf 58 [(1,AV.ptr 0 0),(3,AV.ptr 1 0),(5,AV.ptr 2 0),(7,bA ((e==y2.2))),(8,iA s156)]) (fun s156 a158=>[Ob.var 25 [iA (u.mod),AV.sl 1 (List.map encI (u.init)),AV.sl 1 (List.map encI (u.regs)),AV.sl 1 (List.map encThr (u.code))],Ob.var 31 [AV.sl 1 (List.map encI (a.pc)),AV.sl 1 (List.map encRow (a.regs)),AV.sl 1 [],AV.sl 1 (List.map encBuf (a.buf))],Ob.var 31 [AV.sl 1 (List.map encI (y2.1.pc)),AV.sl 1 (List.map encRow (y2.1.regs)),AV.sl 1 (List.map encI (y2.1.mem)),AV.sl 1 (List.map encBuf (y2.1.buf))]]) (fun _ a166=>stOf 58 [(1,AV.ptr 0 0),(5,AV.ptr 2 0),(7,bA ((e==y2.2)))]) (fun _ a166=>[Ob.var 25 [iA (u.mod),AV.sl 1 (List.map encI (u.init)),AV.sl 1 (List.map encI (u.regs)),AV.sl 1 (List.map encThr (u.code))],Ob.var 31 [AV.sl 1 (List.map encI (a.pc)),AV.sl 1 (List.map encRow (a.regs)),AV.sl 1 [],AV.sl 1 (List.map encBuf (a.buf))],Ob.var 31 [AV.sl 1 (List.map encI (y2.1.pc)),AV.sl 1 (List.map encRow (y2.1.regs)),AV.sl 1 (List.map encI (y2.1.mem)),AV.sl 1 (List.map encBuf (y2.1.buf))]]) (fun v=>(bA v,[])) (fun k s=>csL0 n k s) (fun s=>rfl) o117 n 0 (fun _=>0) ho117 ?_ ?_
 intro k157 s156 a158 K159 cont160 hK161 hcont162 h hr163
 replace h:csL0 n (k157+1) s156=some o117:=h
 rw [csL0] at h
 conv=>lhs;whnf
 revert h
 refine bf ?_
 intro h;cases sj h
 exact kq (hr163 (fun _=>0))
 refine lrc ?_ ?_
 intro v e;subst e;cases sj h;rfl
 intro x122 a121 e';subst e'
 dsimp only at h
 conv=>lhs;whnf
 revert h
 refine ca hc (fun _ h=>ok_conf_Start h) ?_;intro y4
 refine br ?_ ?_
 refine ca hc (fun _ h=>ok_ref09_Same h) ?_;intro y5
 refine br ?_ ?_
 refine ca hc (fun _ h=>ok_law09_known h) ?_;intro y6
 exact rz
 intro h;cases h
 intro h;cases h
 intro h;cases h
 refine ca hc (fun _ h=>ok_law09_known h) ?_;intro y7
 exact rz

theorem csL_ok (n : Nat) : ∀ (m k i : Nat) (l : List Int), i + m = l.length → m < k → l.length ≤ 1000 → ∃ l', csL n k (i : Int) l = some (.out l') := by
  intro m
  induction m with
  | zero =>
    intro k i l hi hk hl
    obtain ⟨k, rfl⟩ : ∃ j, k = j + 1 := ⟨k - 1, by omega⟩
    have hge : ¬ ((i : Int) < (l.length : Int)) := by omega
    rw [csL, bif_not hge]
    exact ⟨_, rfl⟩
  | succ m ih =>
    intro k i l hi hk hl
    obtain ⟨k, rfl⟩ : ∃ j, k = j + 1 := ⟨k - 1, by omega⟩
    have hlt : i < l.length := by omega
    have hlt' : (i : Int) < (l.length : Int) := by omega
    rw [csL, bif_decide hlt', idx_get hlt]
    have w1 := wrap_one i (by omega)
    simp only [Option.bind_some, w1]
    exact ih k (i + 1) _ (by simp; omega) (by omega) (by simp; omega)
theorem csA_m (n : Nat) (u : UnitS) (hn : 500 < n) (hr : rightU u = true) : csA n u = some true := by
  obtain ⟨u1, u2, u3, u4⟩ := rightU_len hr
  obtain ⟨l, hL⟩ := csL_ok n u.init.length n 0 u.init (by omega) (by omega) (by omega)
  have hL : csL n n 0 u.init = _ := hL
  have hk : m_law09_known n = some true := by obtain ⟨n, rfl⟩ : ∃ j, n = j + 1 := ⟨n - 1, by omega⟩; rfl
  have h7 : m_ref07_Light n u = some (lightU u) := by obtain ⟨n, rfl⟩ : ∃ j, n = j + 1 := ⟨n - 1, by omega⟩; rfl
  have hs := same_m n (startC u) (startC u) hn (startC_light u hr)
  have e : (⟨(startC u).pc,(startC u).regs,u.init,(startC u).buf⟩:ConfS) = startC u := rfl
  rw [csA, e]
  simp only [h7, hk, start_r n u hr (by omega), start_m n u hr (by omega), hs, hL, Option.bind_some, beq_self_eq_true, cond_true]
  cases lightU u <;> rfl
theorem csB_m (n : Nat) (u : UnitS) (a : ConfS) (e : Int) (hn : 500 < n) (ha : a.mem = []) (hl : LightC a) (h1 : m_ref09_Start n u = some (a, e)) (h2 : m_conf_Start n u = some (a, e)) : csB n u a e = some true := by
  have hL : csL0 n n 0 = some (.out ()) := by obtain ⟨n, rfl⟩ : ∃ j, n = j + 1 := ⟨n - 1, by omega⟩; rfl
  have hk : m_law09_known n = some true := by obtain ⟨n, rfl⟩ : ∃ j, n = j + 1 := ⟨n - 1, by omega⟩; rfl
  have h7 : m_ref07_Light n u = some (lightU u) := by obtain ⟨n, rfl⟩ : ∃ j, n = j + 1 := ⟨n - 1, by omega⟩; rfl
  have hs := same_m n a a hn hl
  have e' : (⟨a.pc,a.regs,([]:List Int),a.buf⟩:ConfS) = a := by rw [← ha]
  rw [csB, e']
  simp only [h7, hk, h1, h2, hs, hL, Option.bind_some, beq_self_eq_true, cond_true]
  cases lightU u <;> rfl
/-- The law. -/
theorem confStarts_run (u : UnitS) : runFn Try.prog HH (callO (cN XT 600) yT) 600 false 3 [aU u] [] = some (.bool true, []) := by
  have hc : ∀ g l h, callO (cN XT 600) yT false g l h = callN Try.prog HH XT 600 g l h := fun _ _ _ => rfl
  have hO : callO (cN XT 600) yT true 12 [aU u] [] = some (startO u) := (show callO (cN XT 600) yT true 12 [aU u] [] = yStart [aU u] from rfl).trans (yStart_eq u)
  cases hr : rightU u with
  | false =>
    have e : startO u = (.tup [aC zeroC, .int .i64 8], []) := by simp [startO, hr]
    rw [e] at hO
    exact lawB (a := zeroC) (e := 8) hc hO (csB_m 600 u zeroC 8 (by decide) rfl zeroC_light (start_rbad 598 u hr) (start_bad 598 u hr))
  | true =>
    by_cases hp : 0 < u.init.length
    · have e : startO u = startOwn u := by simp [startO, hr, hp]
      rw [e] at hO
      exact lawA hc hO (csA_m 600 u (by decide) hr)
    · have e : startO u = (.tup [aC (startC u), .int .i64 0], []) := by simp [startO, hr, hp]
      rw [e] at hO
      have hm : (startC u).mem = [] := List.eq_nil_of_length_eq_zero (by show u.init.length = 0; omega)
      refine lawB (a := startC u) (e := 0) hc ?_ (csB_m 600 u (startC u) 0 (by decide) hm (startC_light u hr) (start_r 600 u hr (by decide)) (start_m 600 u hr (by decide)))
      have e2 : aC (startC u) = .agg [AV.sl 1 (List.map encI ((startC u).pc)),AV.sl 1 (List.map encRow ((startC u).regs)),AV.sl 1 [],AV.sl 1 (List.map encBuf ((startC u).buf))] := by
        show AV.agg [AV.sl 1 (List.map encI ((startC u).pc)),AV.sl 1 (List.map encRow ((startC u).regs)),AV.sl 1 (List.map encI ((startC u).mem)),AV.sl 1 (List.map encBuf ((startC u).buf))] = _
        rw [hm]; rfl
      rw [e2] at hO
      exact hO
theorem confStarts_walk (W : World) (v : Value) (u : UnitS) (hr : Reps (SAll W) W [] [] [aU u] [v]) : Calls Try.prog 3 #[v] W (LawOk W) :=
  law_callsO (callO_sound (cN_sound XT_sound 600) yT_sound) (confStarts_run u) hr
theorem confStarts_frame (W : World) (cs : Array Value) (u : UnitS) (hu : rUnit.rel W cs.toList u) : Calls Try.prog 3 #[.agg cs] W (LawOk W) := by
  refine confStarts_walk W _ u (.cons _ _ _ _ _ _ ?_ (.nil _ _))
  obtain ⟨h1, h2⟩ := e_unit _ _ _ hu
  cases cs
  exact .agg _ _ _ _ h1 h2
end Go.Proofs.Ytejkhpgahnncnaa
end

section
namespace Go.Proofs.Ytejkhpgahnncnaa
set_option linter.unusedVariables false
set_option linter.unusedSimpArgs false

theorem opens_rI : Opens Try.prog 3 rI := opens_int Try.underlying3 (by kernel_rfl)
theorem opens_ints : Opens Try.prog 22 rInts := opens_slice Try.underlying22 (by kernel_rfl) opens_rI (by decide)
theorem opens_op : Opens Try.prog 99 rOp := opens_map _ (opens_struct Try.underlying99 (by kernel_rfl) (fields_cons rfl opens_rI (fields_cons rfl opens_rI (fields_one rfl opens_rI) (by decide)) (by decide)))
theorem opens_ops : Opens Try.prog 53 rOps := opens_slice Try.underlying53 (by kernel_rfl) opens_op (by decide)
theorem opens_bool' : Opens Try.prog 4 rBool := opens_bool Try.underlying4 (by kernel_rfl)
theorem opens_instr : Opens Try.prog 55 rInstr := opens_map _ (opens_struct Try.underlying55 (by kernel_rfl)
  (fields_cons rfl opens_rI (fields_cons rfl opens_rI (fields_cons rfl opens_rI (fields_cons rfl opens_ops (fields_cons rfl opens_ops (fields_cons rfl opens_bool' (fields_one rfl opens_rI) (by decide)) (by decide)) (by decide)) (by decide)) (by decide)) (by decide)))
theorem opens_instrs : Opens Try.prog 52 rInstrs := opens_slice Try.underlying52 (by kernel_rfl) opens_instr (by decide)
theorem opens_code : Opens Try.prog 23 rCode := opens_slice Try.underlying23 (by kernel_rfl) opens_instrs (by decide)
theorem opens_unit : Opens Try.prog 25 rUnit := opens_map _ (opens_struct Try.underlying25 (by kernel_rfl)
  (fields_cons rfl opens_rI (fields_cons rfl opens_ints (fields_cons rfl opens_ints (fields_one rfl opens_code) (by decide)) (by decide)) (by decide)))
end Go.Proofs.Ytejkhpgahnncnaa
end

section
namespace Go.Proofs.Ytejkhpgahnncnaa
open Go.RowKit Go.WideShapes
set_option linter.unusedVariables false
set_option linter.unusedSimpArgs false

theorem okWide_struct' {P : Program} {w : World} {r : Reach} {base : Nat} {t : TypeId} {v : Value} {fs : Array Field} (ht : P.underlying t = some (.struct fs)) (h : Value.okWide P w r base t v) : ∃ cs, v = .agg cs := by
  simp only [Value.okWide, ht] at h
  obtain ⟨cs, rfl, _⟩ := h
  exact ⟨cs, rfl⟩
end Go.Proofs.Ytejkhpgahnncnaa
end

