/- The interpreter is sound: every operation. Parts of the proofs of the laws. Conditions: none. -/
import Derived.Test.YtaocgmkcjemecaaAbsI
namespace Go.Proofs.Ytaocgmkcjemecaa
open Go.RowKit
set_option linter.unusedVariables false
set_option linter.unusedSimpArgs false

/-- A call that is what the interpreter says. -/
def SoundCall (P : Program) (H : Hints) (call : CallT) : Prop := ∀ (st : Bool) (g : FuncId) (args : List AV) (hp : Hp) (v : AV) (hp' : Hp), call st g args hp = some (v, hp') → ∀ (base : Nat) (S : Nat → Nat → Prop) (w : World) (φ : List Pl) (vs : List Value), Sim P base S w hp φ → Reps S w hp φ args vs →
  Calls P g vs.toArray w fun e w' => ∃ u S' φ', e = .returned u ∧ Rep S' w' hp' φ' v u ∧ Sim P base S' w' hp' φ' ∧ Trans base S w hp φ S' w' hp' φ'

def GoodFn (P : Program) (g : FuncId) : Prop := ∃ fn, P.funcs[g]? = some fn ∧ (fn.name == "runtime.NumGoroutine") = false ∧ fn.body.isNone = false
def GoodH (P : Program) (H : Hints) : Prop := ∀ g, H.good.contains g = true → GoodFn P g

section
variable {S : Nat → Nat → Prop} {w : World} {hp : Hp} {φ : List Pl} {P : Program} {base : Nat} {e : Operand → Value} {o : Oper} {tm : Tm} {ρ : Type} {r : ρ} {K : AV → Option ρ}

theorem norm_rep {t : TypeId} {a : AV} {v : Value} (h : Rep S w hp φ a v) : Rep S w hp φ (norm P t a) v := by
  cases a <;> simp only [norm] <;> first | exact h | skip
  case nils => exact norm1_rep h
  case agg cs =>
    obtain ⟨vs, h1, h2, rfl⟩ := h.agg_inv
    exact .agg _ _ _ _ (norms_rep h1) h2
theorem normArgs_rep {ts : List TypeId} {l : List AV} {vs : List Value} (h : Reps S w hp φ l vs) : Reps S w hp φ (normArgs P ts l) vs := by
  induction ts generalizing l vs with
  | nil => cases l <;> exact h
  | cons t ts ih => cases l with
    | nil => exact h
    | cons a l => cases h with | cons _ _ _ v _ vs h t' => exact .cons _ _ _ _ _ _ (norm_rep h) (ih t')
theorem evs_rep (ht : ∀ x, Rep S w hp φ (ev tm x) (e x)) (l : List Operand) : Reps S w hp φ (l.map (ev tm)) (l.map e) := by
  induction l with
  | nil => exact .nil _ _
  | cons x l ih => exact .cons _ _ _ _ _ _ (ht x) ih

theorem pure_sound (hs : Sim P base S w hp φ) (ht : ∀ x, Rep S w hp φ (ev tm x) (e x)) {op : Op} (ho : o.op = op) (h : pureOp P tm hp op K = some r) : ∃ v, K v = some r ∧ Acts P base S w hp φ e o v hp := by
  have fin : (∃ v, K v = some r ∧ Gives P S w hp φ e o v) → ∃ v, K v = some r ∧ Acts P base S w hp φ e o v hp := fun ⟨v, h1, h2⟩ => ⟨v, h1, h2.acts hs⟩
  unfold pureOp at h
  split at h
  case h_1 x => exact fin ⟨_, h, gives_move ht (.inl ho)⟩
  case h_2 x => exact fin ⟨_, h, gives_move ht (.inr ho)⟩
  case h_3 c x y =>
    split at h
    · rename_i t hc
      refine fin ⟨_, ?_, gives_pick ht ho hc⟩
      cases t <;> exact h
    · cases h
  case h_4 op t x y t' => exact fin (gives_binop ht ho h)
  case h_5 t x =>
    split at h
    · rename_i b hc; exact fin ⟨_, h, gives_not ht ho hc⟩
    · cases h
  case h_6 t x =>
    split at h
    · rename_i k n hc; exact fin ⟨_, h, gives_neg ht ho hc⟩
    · cases h
  case h_7 s t x =>
    split at h
    · rename_i k hu
      split at h
      · rename_i hs'
        split at h
        · rename_i k' n hx; exact fin ⟨_, h, gives_convert ht ho hu hs' hx⟩
        · cases h
      · cases h
    · cases h
  case h_8 x => exact fin (gives_nilCheck ht ho h)
  case h_9 t ps =>
    split at h
    · rename_i fs hu
      split at h
      · rename_i hall
        split at h
        · rename_i z hz
          split at h
          · rename_i cs hcs; exact fin ⟨_, h, gives_build ht ho hu hall hz hcs⟩
          · cases h
        · cases h
      · cases h
    · cases h
  case h_10 t n ps =>
    split at h
    · rename_i et he
      split at h
      · rename_i hc
        simp only [Bool.and_eq_true, decide_eq_true_eq] at hc
        obtain ⟨⟨rfl, h0⟩, hsz⟩ := hc
        split at h
        · rename_i z hz
          split at h
          · rename_i hc
            simp only [Bool.and_eq_true, decide_eq_true_eq] at hc
            obtain ⟨⟨h1, h2⟩, h3⟩ := hc
            split at h
            · rename_i els hels; exact ⟨_, h, (fresh_buildSlice hs ht ho (elem_of he) h3 h0 hsz hz h1 h2 hels).stay hs⟩
            · cases h
          · cases h
        · cases h
      · cases h
    · cases h
  case h_11 t n c =>
    split at h
    · rename_i et he
      split at h
      · rename_i l hn
        split at h
        · rename_i l' hc
          split at h
          · rename_i z hz
            split at h
            · rename_i hb
              simp only [Bool.and_eq_true, decide_eq_true_eq] at hb
              cases hzc : closeL [] (norms P (cellTys P 6 et) z.cells) with
              | none => rw [hzc] at h; cases h
              | some zc =>
              rw [hzc] at h
              simp only at h
              by_cases hq : ((decide (0 ≤ l) && decide (l = l')) && decide (P.bytesOf et * l ≤ 140737488355328)) = true
              · rw [hq] at h
                simp only [Bool.and_eq_true, decide_eq_true_eq] at hq
                obtain ⟨⟨q1, rfl⟩, q3⟩ := hq
                exact ⟨_, h, (fresh_makeSlice hs ht ho (elem_of he) hn hc q1 q3 hz hb.1 hb.2 hzc).stay hs⟩
              · rw [Bool.not_eq_true] at hq; rw [hq] at h; cases h
            · cases h
          · cases h
        · cases h
      · cases h
    · cases h
  case h_12 t x => exact fin (gives_load hs ht ho h)
  case h_13 t x f =>
    split at h
    · rename_i p hp'
      split at h
      · rename_i hz; exact fin (gives_fieldAddr ht ho hp' (of_decide_eq_true hz) h)
      · cases h
    · cases h
  case h_14 t x f =>
    split at h
    · rename_i p hp'
      split at h
      · rename_i cs hx; exact fin (gives_field ht ho hp' hx h)
      · cases h
    · cases h
  case h_15 t x y =>
    split at h
    · rename_i k i hi; exact fin (gives_indexAddr hs ht ho hi h)
    · cases h
  case h_16 t x y =>
    split at h
    · rename_i k i hi
      split at h
      · rename_i hu
        split at h
        · rename_i s hx
          by_cases hq : (decide (0 ≤ i) && decide (i < s.length)) = true
          · rw [hq] at h
            simp only [Bool.and_eq_true, decide_eq_true_eq] at hq
            simp only [cond_true] at h
            split at h
            · rename_i b hb; exact fin ⟨_, h, gives_index ht ho hi hu hx hq.1 hb⟩
            · cases h
          · rw [Bool.not_eq_true] at hq; rw [hq] at h; cases h
        · cases h
      · cases h
    · cases h
  case h_17 t x lo hi =>
    split at h
    · rename_i hu
      split at h
      · rename_i s hx; exact fin (gives_cutStr ht ho hu hx h)
      · cases h
    · rename_i et hu
      split at h
      · rename_i hz; exact fin (gives_cutS hs ht ho hu (of_decide_eq_true hz) h)
      · cases h
    · cases h
  case h_18 x k =>
    split at h
    · rename_i cs hx
      split at h
      · rename_i v hv; exact fin ⟨_, h, gives_extract ht ho hx hv⟩
      · cases h
    · cases h
  case h_19 f a b => exact fin ⟨_, h, gives_makeFunc ht ho⟩
  case h_20 c =>
    obtain ⟨cal, args, ats⟩ := c
    simp only at h
    split at h
    · split at h
      · rename_i x
        split at h
        · rename_i t
          split at h
          · rename_i hu
            split at h
            · rename_i s hx; exact fin ⟨_, h, gives_len_str ht ho hu hx⟩
            · cases h
          · rename_i et hu; exact fin (gives_len_slice ht ho hu h)
          · cases h
        · cases h
      · cases h
    · split at h
      · rename_i x y
        split at h
        · rename_i k a hx
          split at h
          · rename_i k' b hy
            split at h
            · rename_i hk; exact fin ⟨_, h, gives_min ht ho hx hy (of_decide_eq_true hk)⟩
            · cases h
          · cases h
        · cases h
      · cases h
    · split at h
      · rename_i x y
        split at h
        · rename_i k a hx
          split at h
          · rename_i k' b hy
            split at h
            · rename_i hk; exact fin ⟨_, h, gives_max ht ho hx hy (of_decide_eq_true hk)⟩
            · cases h
          · cases h
        · cases h
      · cases h
    · cases h
  case h_21 => cases h

theorem pure_fresh (hs : Sim P base S w hp φ) (ht : ∀ x, Rep S w hp φ (ev tm x) (e x)) {op : Op} (ho : o.op = op) {t : TypeId} (hop : (∃ n ps, op = .buildSlice t n ps) ∨ (∃ n c, op = .makeSlice t n c)) (h : pureOp P tm hp op K = some r) :
    ∃ et els, elemOf P t = some et ∧ K (.sl (P.cellsOf et) els) = some r ∧ FreshS P S w e o et (P.cellsOf et) els := by
  rcases hop with ⟨n, ps, rfl⟩ | ⟨n, c, rfl⟩
  · simp only [pureOp] at h
    split at h
    · rename_i et he
      split at h
      · rename_i hc
        simp only [Bool.and_eq_true, decide_eq_true_eq] at hc
        obtain ⟨⟨rfl, h0⟩, hsz⟩ := hc
        split at h
        · rename_i z hz
          split at h
          · rename_i hc
            simp only [Bool.and_eq_true, decide_eq_true_eq] at hc
            obtain ⟨⟨h1, h2⟩, h3⟩ := hc
            split at h
            · rename_i els hels; exact ⟨et, els, he, h, fresh_buildSlice hs ht ho (elem_of he) h3 h0 hsz hz h1 h2 hels⟩
            · cases h
          · cases h
        · cases h
      · cases h
    · cases h
  · simp only [pureOp] at h
    split at h
    · rename_i et he
      split at h
      · rename_i l hn
        split at h
        · rename_i l' hc
          split at h
          · rename_i z hz
            split at h
            · rename_i hb
              simp only [Bool.and_eq_true, decide_eq_true_eq] at hb
              cases hzc : closeL [] (norms P (cellTys P 6 et) z.cells) with
              | none => rw [hzc] at h; cases h
              | some zc =>
              rw [hzc] at h
              simp only at h
              by_cases hq : ((decide (0 ≤ l) && decide (l = l')) && decide (P.bytesOf et * l ≤ 140737488355328)) = true
              · rw [hq] at h
                simp only [Bool.and_eq_true, decide_eq_true_eq] at hq
                obtain ⟨⟨q1, rfl⟩, q3⟩ := hq
                exact ⟨et, _, he, h, fresh_makeSlice hs ht ho (elem_of he) hn hc q1 q3 hz hb.1 hb.2 hzc⟩
              · rw [Bool.not_eq_true] at hq; rw [hq] at h; cases h
            · cases h
          · cases h
        · cases h
      · cases h
    · cases h
theorem asOb_acts (hs : Sim P base S w hp φ) {t et : TypeId} {els : List (List AV)} (he : elemOf P t = some et) (hf : FreshS P S w e o et (P.cellsOf et) els) {b1 b2 : Bool} {K : AV → Hp → Option ρ} (h : asOb P t b1 b2 hp K (.sl (P.cellsOf et) els) = some r) : ∃ v hp', K v hp' = some r ∧ Acts P base S w hp φ e o v hp' := by
  unfold asOb at h
  cases b1 with
  | true =>
    rw [he] at h
    simp only at h
    split at h
    · rename_i hq
      simp only [Bool.and_eq_true, decide_eq_true_eq] at hq
      rw [forceHp_eq] at h
      exact ⟨_, _, h, hf.row hs rfl hq.2⟩
    · cases h
  | false =>
    cases b2 with
    | true => simp only [forceHp_eq] at h; exact ⟨_, _, h, hf.arr hs⟩
    | false => exact ⟨_, _, h, hf.stay hs⟩

theorem Acts.wp {a : Act} {v : AV} {hp' : Hp} {next : Act → World → Prop} {Q : Exit → Act → World → Prop} (h : Acts P base S w hp φ a.eval o v hp') (hn : ∀ u S' φ' w', Rep S' w' hp' φ' v u → Sim P base S' w' hp' φ' → Trans base S w hp φ S' w' hp' φ' → next (a.put o.dst u) w') : o.wp P a w next Q := by
  obtain ⟨u, S', φ', w', h1, h2, h3, h4⟩ := h
  unfold Oper.wp
  rcases h1 with h1 | ⟨h1, rfl⟩
  · rw [h1]; exact hn u S' φ' w' h2 h3 h4
  · rw [h1]; exact hn undef S' φ' w' h2 h3 h4

theorem run_callFunc {g : FuncId} {args : Array Value} (hg : GoodFn P g) : (callFunc g args).run P w = .ok (.enter g args) w := by
  obtain ⟨fn, h1, h2, h3⟩ := hg
  simp only [callFunc, Sem.run_bind, run_program, Result.andThen_ok, h1, h2, h3, Bool.false_eq_true, if_false, Sem.run_pure]

theorem stepV_sound {H : Hints} {call : CallT} (hH : GoodH P H) (hc : SoundCall P H call) {f : FuncId} {a : Act} {K : AV → Hp → Option ρ} (hs : Sim P base S w hp φ) (ht : ∀ x, Rep S w hp φ (ev tm x) (a.eval x)) (h : stepV P H call f o tm hp K = some r)
    {next : Act → World → Prop} {Q : Exit → Act → World → Prop} (hn : ∀ v hp' u S' φ' w', K v hp' = some r → Rep S' w' hp' φ' v u → Sim P base S' w' hp' φ' → Trans base S w hp φ S' w' hp' φ' → next (a.put o.dst u) w') : o.wp P a w next Q := by
  have fin : (∃ v hp', K v hp' = some r ∧ Acts P base S w hp φ a.eval o v hp') → o.wp P a w next Q := fun ⟨v, hp', h1, h2⟩ => h2.wp fun u S' φ' w' h3 h4 h5 => hn v hp' u S' φ' w' h1 h3 h4 h5
  have pur : ∀ {op : Op}, o.op = op → pureOp P tm hp op (fun v => K v hp) = some r → o.wp P a w next Q := fun ho h => by
    obtain ⟨v, h1, h2⟩ := pure_sound hs ht ho h
    exact fin ⟨v, hp, h1, h2⟩
  unfold stepV at h
  split at h
  case h_1 x ho =>
    split at h
    · rename_i hx
      split at h
      · split at h
        · rename_i et he
          split at h
          · rename_i hz
            rw [forceHp_eq] at h
            exact fin ⟨_, _, h, acts_nil hs ht ho hx (of_decide_eq_true hz)⟩
          · cases h
        · cases h
      · exact fin ⟨_, _, h, by rw [← hx]; exact (gives_move ht (.inr ho)).acts hs⟩
    · exact fin ⟨_, _, h, (gives_move ht (.inr ho)).acts hs⟩
  case h_2 t n ps ho =>
    obtain ⟨et, els, he, hk, hf⟩ := pure_fresh hs ht ho (.inl ⟨_, _, rfl⟩) h
    exact fin (asOb_acts hs he hf hk)
  case h_3 t n c ho =>
    obtain ⟨et, els, he, hk, hf⟩ := pure_fresh hs ht ho (.inr ⟨_, _, rfl⟩) h
    exact fin (asOb_acts hs he hf hk)
  case h_4 t ho =>
    split at h
    · rename_i z hz
      split at h
      · rename_i hb
        simp only [Bool.and_eq_true, decide_eq_true_eq] at hb
        rw [forceHp_eq] at h
        exact fin ⟨_, _, h, acts_alloc hs ho hz hb.2⟩
      · cases h
    · cases h
  case h_5 t x ho =>
    split at h
    · rename_i hb
      rw [forceHp_eq] at h
      exact fin ⟨_, _, h, acts_box hs ht ho hb⟩
    · cases h
  case h_6 t y x ho =>
    split at h
    · rename_i hb
      simp only [Bool.and_eq_true, decide_eq_true_eq] at hb
      obtain ⟨⟨b1, b2⟩, b3⟩ := hb
      split at h
      · rename_i id off ha
        split at h
        · rename_i E cs hob
          by_cases hq : off + P.cellsOf t ≤ cs.length
          · rw [decide_eq_true hq] at h
            simp only [cond_true] at h
            rw [forceHp_eq] at h
            exact fin ⟨_, _, h, acts_store_var hs ht ho b1 b2 b3 ha hob hq⟩
          · rw [decide_eq_false hq] at h; cases h
        · cases h
      · rename_i id i off ha
        split at h
        · rename_i size els hob
          split at h
          · rename_i el hel
            split at h
            · rename_i c hcl
              by_cases hq : off + P.cellsOf t ≤ el.length
              · rw [decide_eq_true hq] at h
                simp only [cond_true] at h
                rw [forceHp_eq] at h
                exact fin ⟨_, _, h, acts_store_arr hs ht ho b1 b2 b3 ha hob hel hcl hq⟩
              · rw [decide_eq_false hq] at h; cases h
            · cases h
          · cases h
        · cases h
      · cases h
    · cases h
  case h_7 c ho =>
    obtain ⟨cal, args, ats⟩ := c
    simp only at h
    split at h
    · rename_i fo
      split at h
      · rename_i g x y hg
        split at h
        · rename_i hgood
          have hgf := hH g hgood
          have hfo := ht fo
          rw [hg] at hfo
          obtain ⟨fa, fb, hx, hy, he⟩ := hfo.func_inv
          have hargs := evs_rep ht args.toList
          have hrun : (execOp a.eval o).run P w = .ok (.enter g (fa ++ args.toList.map a.eval ++ fb).toArray) w := by
            have e1 : (fa.toArray ++ args.map a.eval) ++ fb.toArray = (fa ++ args.toList.map a.eval ++ fb).toArray := by
              apply Array.ext'; simp
            simp only [execOp, ho, resolve, he, Deferred.ofValue, invoke, Sem.run_bind, Sem.run_pure, Result.andThen_ok, run_callFunc hgf, e1]
          split at h
          · split at h
            · rename_i v hp' hcall
              have := hc _ _ _ hp v hp' hcall base S w φ _ hs (Reps.append (Reps.append hx hargs) hy)
              unfold Oper.wp
              rw [hrun]
              refine this.mono ?_
              rintro e w' ⟨u, S', φ', rfl, h1, h2, h3⟩
              exact hn v hp' u S' φ' w' h h1 h2 h3
            · cases h
          · split at h
            · split at h
              · rename_i as has
                split at h
                · rename_i v hpn hcall
                  rw [forceHp_eq] at h
                  have hcl := closeArgs_rep (Reps.append (Reps.append hx (normArgs_rep hargs)) hy) has
                  have hs0 : Sim P w.heap.size S w [] [] := ⟨rfl, Nat.le_refl _, hs.cell, fun id o ho => by simp at ho, fun i j b hi => by simp [blockAt] at hi⟩
                  have := hc true g as [] v hpn hcall w.heap.size S w [] _ hs0 hcl
                  unfold Oper.wp
                  rw [hrun]
                  refine this.mono ?_
                  rintro e w' ⟨u, S', φ', rfl, h1, h2, h3⟩
                  obtain ⟨k1, k2, k3⟩ := hs.adopt h1 h2 h3
                  exact hn _ _ u S' (φ ++ φ') w' h k1 k2 k3
                · cases h
              · cases h
            split at h
            · split at h
              · rename_i as has
                split at h
                · rename_i v hcall
                  have hcl := closeArgs_rep (Reps.append (Reps.append hx (normArgs_rep hargs)) hy) has
                  have hs0 : Sim P w.heap.size S w [] [] := ⟨rfl, Nat.le_refl _, hs.cell, fun id o ho => by simp at ho, fun i j b hi => by simp [blockAt] at hi⟩
                  have := hc false g as [] v [] hcall w.heap.size S w [] _ hs0 hcl
                  unfold Oper.wp
                  rw [hrun]
                  refine this.mono ?_
                  rintro e w' ⟨u, S', φ', rfl, h1, h2, h3⟩
                  have hφ : φ' = [] := List.eq_nil_of_length_eq_zero h2.len
                  subst hφ
                  have hkeep : Sim P base S' w' hp φ := hs.keep h3.s h3.below.size h2.cell fun id b hb => by
                    have hlt := (hs.block_lt hb).2
                    exact ⟨h3.below.block b hlt, fun o => ⟨fun h => (h3.new b o h).elim (fun h => h) fun h => by omega, fun h => (h3.s b o h).1⟩⟩
                  exact hn v hp u S' φ w' h h1.lift hkeep ⟨h3.s, .refl _ _, h3.below.mono hs.low, fun b o h => (h3.new b o h).elim .inl fun h => .inr (Nat.le_trans hs.low h)⟩
                · cases h
              · cases h
            · split at h
              · rename_i as has
                split at h
                · rename_i v hcall
                  split at h
                  · rename_i hfl
                    have hcl := closeOArgs_rep hs (Reps.append (Reps.append hx (normArgs_rep hargs)) hy) has
                    have hs0 : Sim P w.heap.size (withArr S w hp φ) w [] [] := ⟨rfl, Nat.le_refl _, withArr_cell hs, fun id o ho => by simp at ho, fun i j b hi => by simp [blockAt] at hi⟩
                    have := hc false g as [] v [] hcall w.heap.size (withArr S w hp φ) w [] _ hs0 hcl
                    unfold Oper.wp
                    rw [hrun]
                    refine this.mono ?_
                    rintro e w' ⟨u, S', φ', rfl, h1, h2, h3⟩
                    have hS1 : SExt S w S w' := fun b o hb => ⟨hb, (h3.s b o (.inl hb)).2⟩
                    have hkeep : Sim P base S w' hp φ := hs.keep hS1 h3.below.size (fun b o hb => by
                      obtain ⟨u, hu⟩ := hs.cell b o hb
                      exact ⟨u, (hS1 b o hb).2.trans hu⟩) fun id b hb => ⟨h3.below.block b (hs.block_lt hb).2, fun o => .rfl⟩
                    exact hn v hp u S φ w' h (flat_rep hfl h1) hkeep ⟨hS1, .refl _ _, h3.below.mono hs.low, fun b o h => .inl h⟩
                  · cases h
                · cases h
              · cases h
        · cases h
      · cases h
    · split at h
      · rename_i s x
        split at h
        · rename_i t t'
          split at h
          · rename_i htt
            have htt := of_decide_eq_true htt
            subst htt
            split at h
            · rename_i et he
              split at h
              · rename_i z hz
                split at h
                · rename_i hb
                  simp only [Bool.and_eq_true, decide_eq_true_eq] at hb
                  obtain ⟨⟨b1, b2⟩, b3⟩ := hb
                  split at h
                  · rename_i news hnews
                    split at h
                    · rename_i hsv
                      by_cases hq : news.length * (P.bytesOf et + 1) ≤ 140737488355328
                      · rw [decide_eq_true hq] at h
                        simp only [cond_true] at h
                        split at h
                        · rw [forceHp_eq] at h
                          exact fin ⟨_, _, h, acts_append_nil hs ht ho (elem_of he) b3 hz b1 b2 hnews hsv hq⟩
                        · by_cases hq2 : news.length = 0
                          · rw [decide_eq_true hq2] at h
                            simp only [cond_true] at h
                            exact fin ⟨_, _, h, acts_append_nil_none hs ht ho (elem_of he) b3 hz b1 b2 hnews hsv hq2⟩
                          · rw [decide_eq_false hq2] at h
                            simp only [cond_false] at h
                            rw [forceHp_eq] at h
                            exact fin ⟨_, _, h, acts_append_nil_arr hs ht ho (elem_of he) b3 hz b1 b2 hnews hsv hq hq2⟩
                      · rw [decide_eq_false hq] at h; cases h
                    · rename_i id n hsv
                      split at h
                      · rename_i e' size els hob
                        split at h
                        · rename_i hq1
                          simp only [Bool.and_eq_true, decide_eq_true_eq] at hq1
                          obtain ⟨rfl, rfl⟩ := hq1
                          by_cases hq : (decide (n = els.length) && decide ((els.length + news.length) * (P.bytesOf e' + 1) ≤ 140737488355328)) = true
                          · rw [hq] at h
                            simp only [Bool.and_eq_true, decide_eq_true_eq] at hq
                            simp only [cond_true] at h
                            rw [forceHp_eq] at h
                            exact fin ⟨_, _, h, acts_append hs ht ho (elem_of he) b3 hz b1 b2 hnews hsv hob hq.1 hq.2⟩
                          · rw [Bool.not_eq_true] at hq; rw [hq] at h; cases h
                        · cases h
                      · cases h
                    · cases h
                  · cases h
                · cases h
              · cases h
            · cases h
          · cases h
        · cases h
      · cases h
    · rw [ho] at h; exact pur ho h
  case h_8 => exact pur rfl h
end
end Go.Proofs.Ytaocgmkcjemecaa
