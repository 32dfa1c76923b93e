/- Parts of the proofs: what they lean on. Conditions: none. -/
import Derived.Test.YtpnhafdimkmbbaaLegalMoreP1
section
namespace Go.Proofs.Ytpnhafdimkmbbaa
set_option linter.unusedVariables false
set_option linter.unusedSimpArgs false
set_option maxRecDepth 10000
theorem pindex_m (n : Nat) (l : List (List UInt8)) (s : List UInt8) (hl : l.length ≤ 5000) (hn : 5010 < n) : m_legal_Index n l s = some (posF s l 0) := by
  obtain ⟨n, rfl⟩ : ∃ j, n = j + 1 := ⟨n - 1, by omega⟩
  rw [m_legal_Index]
  exact index_loop (F := fun k i => legal_Index_L0 n l s k i) s l (fun k => by rw [legal_Index_L0, bif_not (by omega)]) (fun k i x hi hx => by rw [legal_Index_L0, bif_decide (by omega), idx_some hx, Option.bind_some, wrap_one i (by omega)]) l.length 0 n (by omega) (by omega)
theorem plocs_m (n : Nat) (p : Pg) (hl : p.f_Locs.length ≤ 5000) (hn : 5010 < n) : m_legal_Locs n p = some (nmL p.f_Locs) := by
  obtain ⟨n, rfl⟩ : ∃ j, n = j + 1 := ⟨n - 1, by omega⟩
  have := map_list (ν := List (List UInt8)) p.f_Locs S_api_Var.f_Name (fun k i s => legal_Locs_L0 n p k (i : Int) s) (fun k s => by rw [legal_Locs_L0, bif_not (by omega)]) (fun k i x s hi hx hs => by rw [legal_Locs_L0, bif_decide (by omega), idx_some hx, Option.bind_some, bif_decide (by omega), wrap_one i (by omega)]) (k := n) (by omega)
  rw [show ((0 : Nat) : Int) = 0 from rfl] at this
  rw [m_legal_Locs, this]; rfl
def freshS : List UInt8 := [102,114,101,115,104,95,110,97,109,101]
theorem pos_ge0 (s : List UInt8) (l : List (List UInt8)) : decide (0 ≤ posF s l 0) = l.contains s := by
  have := pos_neg s l 0
  cases h : l.contains s with
  | true => rw [h] at this; exact decide_eq_true (by have := of_decide_eq_false this; omega)
  | false => rw [h] at this; exact decide_eq_false (by have := of_decide_eq_true this; omega)
def takenB (p : Pg) : Bool := (nmL p.f_Locs).contains freshS || p.f_Threads.any (fun t => t.f_Regs.contains freshS)
theorem taken_L (p : Pg) (hb : BoundP p) : law05_LegalMore_L0 19999 p 19999 ((nmL p.f_Locs).contains freshS) 0 = some (.out (takenB p)) := by
  have ht := hb.threads
  have := loop_list0 p.f_Threads (fun k i (s : Bool) => law05_LegalMore_L0 19999 p k s (i : Int)) (fun l s => some (.out (s || l.any (fun t => t.f_Regs.contains freshS)))) (fun _ _ => True) (k := 19999) (s := (nmL p.f_Locs).contains freshS) (by omega) trivial (fun k s _ => by rw [law05_LegalMore_L0, bif_not (by omega)]; simp) (fun k i s x hi hx _ ih => by
    have hr := (hb.thr x (List.mem_of_getElem? hx)).regs
    have i1 := ih true trivial
    have i2 := ih (x.f_Regs.contains freshS) trivial
    rw [law05_LegalMore_L0, bif_decide (by omega), wrap_one i (by omega)]
    cases s with
    | true => rw [cond_true, i1]; simp
    | false =>
      rw [cond_false, idx_some hx, Option.bind_some, show ([102,114,101,115,104,95,110,97,109,101] : List UInt8) = freshS from rfl, pindex_m _ x.f_Regs freshS (by omega) (by omega), Option.bind_some, pos_ge0, i2, List.any_cons, Bool.false_or])
  exact this
def moreP (p : Pg) (n : Int) : Pg := ⟨p.f_Mod, p.f_Locs ++ [⟨freshS, n, 7⟩], p.f_Threads, p.f_Claims⟩
theorem bound_more {p : Pg} (h : BoundP p) (hl : p.f_Locs.length ≤ 20) (n : Int) : BoundP (moreP p n) := by
  refine ⟨by rw [moreP, List.length_append]; simp; omega, h.threads, h.claims, fun v hv => ?_, h.thr, h.cl⟩
  rcases List.mem_append.1 hv with hv | hv
  · exact h.loc v hv
  · rw [List.mem_singleton.1 hv]; show freshS.length ≤ 100; decide
theorem right_more {p : Pg} (h : rightP p = true) {n : Int} (hn : 0 ≤ n ∧ n ≤ 9999) : rightP (moreP p n) = true := by
  simp only [rightP, Bool.and_eq_true, List.all_eq_true] at h ⊢
  refine ⟨h.1, fun v hv => ?_, h.2.2.1, h.2.2.2⟩
  rcases List.mem_append.1 hv with hv | hv
  · exact h.2.1 v hv
  · rw [List.mem_singleton.1 hv]
    simp only [varOk, Bool.and_eq_true, numB]
    exact ⟨(show nameB freshS = true by decide +kernel), decide_eq_true hn, (show decide ((0 : Int) ≤ 7) = true by decide)⟩
theorem nmL_more (p : Pg) (n : Int) : nmL (moreP p n).f_Locs = nmL p.f_Locs ++ [freshS] := by rw [moreP, nmL, List.map_append]; rfl
theorem loc_more {p : Pg} {n : Int} {j : Nat} (hj : j < p.f_Locs.length) : locC p.f_Mod (moreP p n).f_Locs j = locC p.f_Mod p.f_Locs j := by
  unfold locC
  rw [nmL_more, moreP]
  dsimp only
  rw [List.getElem?_append_left hj, List.take_append_of_le_length (by rw [nmL, List.length_map]; omega)]
theorem loc_last (p : Pg) (n : Int) : locC p.f_Mod (moreP p n).f_Locs p.f_Locs.length = [(decide (((p.f_Locs.length : Nat) : Int) < 6), 12, 7), (!(nmL p.f_Locs).contains freshS, 10, 7), (decide (n < p.f_Mod), 11, 7)] := by
  unfold locC
  rw [nmL_more, moreP]
  dsimp only
  rw [List.getElem?_append_right (Nat.le_refl _), Nat.sub_self, List.take_append_of_le_length (by rw [nmL, List.length_map]; omega), List.take_of_length_le (by rw [nmL, List.length_map]; omega)]
  rfl
theorem len_more (p : Pg) (n : Int) : (moreP p n).f_Locs.length = p.f_Locs.length + 1 := by rw [moreP, List.length_append]; rfl
theorem contains_more (l : List (List UInt8)) (s : List UInt8) : (l ++ [freshS]).contains s = (l.contains s || s == freshS) := by
  rw [Bool.eq_iff_iff, List.contains_iff_mem, List.mem_append, List.mem_singleton, Bool.or_eq_true, List.contains_iff_mem, beq_iff_eq]
theorem nodes_up {a b : Nd → Bool} (h : ∀ x, a x = true → b x = true) (md : Int) (l : List Nd) (ha : ∀ k ∈ nodesC a md l, k.1 = true) : ∀ k ∈ nodesC b md l, k.1 = true := by
  intro k hk
  obtain ⟨x, hx, hk⟩ := List.mem_flatMap.1 hk
  have hax : ∀ k ∈ nodeC a md x, k.1 = true := fun k hk => ha k (List.mem_flatMap.2 ⟨x, hx, hk⟩)
  unfold nodeC at hk hax
  cases c1 : x.f_Op == 1 with
  | true => rw [c1] at hk hax; exact hax k hk
  | false =>
    rw [c1, cond_false] at hk hax
    cases c2 : (x.f_Op == 2 || (x.f_Op == 3 || x.f_Op == 4)) with
    | false => rw [c2] at hk; cases hk
    | true =>
      rw [c2, cond_true] at hk hax
      rw [List.mem_singleton.1 hk]
      exact h x (hax _ (List.mem_singleton.2 rfl))
theorem good_more {p : Pg} (hg : Good p) {n : Int} (hn : 0 ≤ n ∧ n < p.f_Mod) (hl : p.f_Locs.length < 6) (ht : takenB p = false) : Good (moreP p n) := by
  obtain ⟨h1, h2⟩ := hg
  have hm : p.f_Mod ≤ 16 := by
    have := h2 _ ((mem_checks p _).2 (.inl rfl))
    exact (of_decide_eq_true this).2
  rw [takenB, Bool.or_eq_false_iff] at ht
  obtain ⟨t1, t2⟩ := ht
  refine ⟨right_more h1 (by omega), fun k hk => ?_⟩
  rw [mem_checks] at hk
  rcases hk with hk | ⟨j, hj, hk⟩ | hk | ⟨j, hj, hk⟩ | ⟨j, hj, hk⟩
  · rw [hk]; exact h2 _ ((mem_checks p _).2 (.inl rfl))
  · rw [len_more] at hj
    by_cases c : j < p.f_Locs.length
    · have hk : k ∈ locC p.f_Mod (moreP p n).f_Locs j := hk
      rw [loc_more c] at hk
      exact h2 k ((mem_checks p k).2 (.inr (.inl ⟨j, c, hk⟩)))
    · obtain rfl : j = p.f_Locs.length := by omega
      have hk : k ∈ locC p.f_Mod (moreP p n).f_Locs p.f_Locs.length := hk
      rw [loc_last] at hk
      simp only [List.mem_cons, List.not_mem_nil, or_false] at hk
      rcases hk with hk | hk | hk <;> rw [hk]
      · exact decide_eq_true (by omega)
      · show (!(nmL p.f_Locs).contains freshS) = true
        rw [t1]; rfl
      · exact decide_eq_true (by omega)
  · rw [hk]; exact h2 _ ((mem_checks p _).2 (.inr (.inr (.inl rfl))))
  · rw [nmL_more] at hk
    have old : ∀ k ∈ thrC p.f_Mod (nmL p.f_Locs) p.f_Threads j, k.1 = true := fun k hk => h2 k ((mem_checks p k).2 (.inr (.inr (.inr (.inl ⟨j, hj, hk⟩)))))
    have hk : k ∈ thrC p.f_Mod (nmL p.f_Locs ++ [freshS]) p.f_Threads j := hk
    unfold thrC at hk old
    cases hx : p.f_Threads[j]? with
    | none => rw [hx] at hk; cases hk
    | some t =>
      rw [hx] at hk old
      dsimp only at hk old
      have tt : t.f_Regs.contains freshS = false := by
        cases c : t.f_Regs.contains freshS with
        | false => rfl
        | true => rw [List.any_eq_false] at t2; exact absurd c (t2 t (List.mem_of_getElem? hx))
      rw [List.mem_cons, List.mem_cons, List.mem_cons, List.mem_append, mem_chF, mem_chF] at hk
      rcases hk with hk | hk | hk | ⟨i, _, hi, hk⟩ | ⟨i, _, hi, hk⟩
      · rw [hk]; exact old _ (List.mem_cons_self ..)
      · rw [hk]; exact old _ (List.mem_cons_of_mem _ (List.mem_cons_self ..))
      · rw [hk]; exact old _ (List.mem_cons_of_mem _ (List.mem_cons_of_mem _ (List.mem_cons_self ..)))
      · have o : ∀ q ∈ regC t.f_Regs (nmL p.f_Locs) t.f_At i, q.1 = true := fun q hq => old q (List.mem_cons_of_mem _ (List.mem_cons_of_mem _ (List.mem_cons_of_mem _ (List.mem_append_left _ ((mem_chF _ _ _ _).2 ⟨i, by omega, hi, hq⟩)))))
        unfold regC at hk o
        cases hr : t.f_Regs[i]? with
        | none => rw [hr] at hk; cases hk
        | some r =>
          rw [hr] at hk o
          have := o _ (List.mem_singleton.2 rfl)
          rw [List.mem_singleton.1 hk]
          simp only [Bool.and_eq_true, Bool.not_eq_true'] at this ⊢
          refine ⟨this.1, ?_⟩
          rw [contains_more, this.2, Bool.false_or, beq_eq_false_iff_ne]
          intro e
          rw [e] at hr
          have := List.contains_iff_mem.2 (List.mem_of_getElem? hr)
          rw [this] at tt; cases tt
      · have o : ∀ q ∈ stC (fun x => t.f_Regs.contains x.f_Name) t.f_Regs.contains (nmL p.f_Locs).contains p.f_Mod t.f_Body i, q.1 = true := fun q hq => old q (List.mem_cons_of_mem _ (List.mem_cons_of_mem _ (List.mem_cons_of_mem _ (List.mem_append_right _ ((mem_chF _ _ _ _).2 ⟨i, by omega, hi, hq⟩)))))
        unfold stC at hk o
        cases hb : t.f_Body[i]? with
        | none => rw [hb] at hk; cases hk
        | some x =>
          rw [hb] at hk o
          dsimp only at hk o
          rw [List.mem_append, List.mem_cons, List.mem_cons] at hk
          rcases hk with hk | hk | hk | hk
          · exact o k (List.mem_append_left _ hk)
          · rw [hk]; exact o _ (List.mem_append_right _ (List.mem_cons_self ..))
          · rw [hk]
            have := o _ (List.mem_append_right _ (List.mem_cons_of_mem _ (List.mem_cons_self ..)))
            dsimp only at this ⊢
            rw [Bool.or_eq_true] at this ⊢
            rcases this with e | e
            · exact .inl e
            · right; rw [contains_more, e]; rfl
          · exact o k (List.mem_append_right _ (List.mem_cons_of_mem _ (List.mem_cons_of_mem _ hk)))
  · rw [nmL_more] at hk
    have old : ∀ k ∈ clmC p.f_Mod (nmL p.f_Locs) p.f_Threads p.f_Claims j, k.1 = true := fun k hk => h2 k ((mem_checks p k).2 (.inr (.inr (.inr (.inr ⟨j, hj, hk⟩)))))
    have hk : k ∈ clmC p.f_Mod (nmL p.f_Locs ++ [freshS]) p.f_Threads p.f_Claims j := hk
    unfold clmC at hk old
    cases hx : p.f_Claims[j]? with
    | none => rw [hx] at hk; cases hk
    | some c =>
      rw [hx] at hk old
      dsimp only at hk old
      rcases List.mem_cons.1 hk with hk | hk
      · rw [hk]; exact old _ (List.mem_cons_self ..)
      · refine nodes_up (a := clN (nmL p.f_Locs) p.f_Threads) (fun x hx => ?_) p.f_Mod c.f_E (fun k hk => old k (List.mem_cons_of_mem _ hk)) k hk
        unfold clN at hx ⊢
        revert hx
        cases x.f_Op == 3 with
        | false => exact id
        | true => rw [cond_true, cond_true, contains_more]; intro hx; rw [hx]; rfl
theorem bad_more {p : Pg} {n : Int} (h : Good (moreP p n)) : takenB p = false := by
  obtain ⟨_, h2⟩ := h
  rw [takenB, Bool.or_eq_false_iff]
  constructor
  · have := h2 (!(nmL p.f_Locs).contains freshS, 10, 7) ((mem_checks _ _).2 (.inr (.inl ⟨p.f_Locs.length, by rw [len_more]; omega, by
      show _ ∈ locC p.f_Mod (moreP p n).f_Locs p.f_Locs.length
      rw [loc_last]; exact List.mem_cons_of_mem _ (List.mem_cons_self ..)⟩)))
    simpa using this
  · rw [List.any_eq_false]
    intro t ht c
    obtain ⟨j, hj, e⟩ := List.mem_iff_getElem.1 ht
    obtain ⟨i, hi, f⟩ := List.mem_iff_getElem.1 (List.contains_iff_mem.1 c)
    have hx : p.f_Threads[j]? = some t := by rw [List.getElem?_eq_getElem hj, e]
    have hr : t.f_Regs[i]? = some freshS := by rw [List.getElem?_eq_getElem hi, f]
    have := h2 (!(t.f_Regs.take i).contains freshS && !(nmL p.f_Locs ++ [freshS]).contains freshS, 10, t.f_At) ((mem_checks _ _).2 (.inr (.inr (.inr (.inl ⟨j, hj, by
      rw [nmL_more]
      show _ ∈ thrC p.f_Mod (nmL p.f_Locs ++ [freshS]) p.f_Threads j
      unfold thrC
      rw [hx]
      refine List.mem_cons_of_mem _ (List.mem_cons_of_mem _ (List.mem_cons_of_mem _ (List.mem_append_left _ ((mem_chF _ _ _ _).2 ⟨i, by omega, by omega, ?_⟩))))
      unfold regC
      rw [hr]; exact List.mem_singleton.2 rfl⟩)))))
    rw [contains_more, beq_self_eq_true] at this
    simp at this
theorem full_more {p : Pg} (hg : Good p) {n : Int} (hn : 0 ≤ n ∧ n < p.f_Mod) (hl : 6 ≤ p.f_Locs.length) : checkR (moreP p n) = (12, 7) := by
  obtain ⟨h1, h2⟩ := hg
  have hm : 2 ≤ p.f_Mod ∧ p.f_Mod ≤ 16 := of_decide_eq_true (h2 _ ((mem_checks p _).2 (.inl rfl)))
  unfold checkR
  rw [right_more h1 (by omega), cond_true]
  unfold checks
  rw [badL, badL_app]
  have e : chF (locC (moreP p n).f_Mod (moreP p n).f_Locs) (moreP p n).f_Locs.length 0 = chF (locC p.f_Mod (moreP p n).f_Locs) p.f_Locs.length 0 ++ locC p.f_Mod (moreP p n).f_Locs p.f_Locs.length := by
    rw [len_more]
    have : ∀ (g : Nat → List Chk) (m i : Nat), chF g (m + 1) i = chF g m i ++ g (i + m) := by
      intro g m
      induction m with
      | zero => intro i; simp [chF]
      | succ m ih => intro i; rw [chF, ih (i + 1), chF, List.append_assoc, show i + 1 + m = i + (m + 1) by omega]
    rw [this, Nat.zero_add]; rfl
  rw [e, badL_app, (badL_none (chF (locC p.f_Mod (moreP p n).f_Locs) p.f_Locs.length 0)).2, loc_last, decide_eq_false (show ¬ ((p.f_Locs.length : Nat) : Int) < 6 by omega)]
  · rw [show decide (2 ≤ (moreP p n).f_Mod ∧ (moreP p n).f_Mod ≤ 16) = true from decide_eq_true hm]; rfl
  · intro k hk
    obtain ⟨j, _, hj, hk⟩ := (mem_chF _ _ _ _).1 hk
    rw [loc_more (by omega)] at hk
    exact h2 k ((mem_checks p k).2 (.inr (.inl ⟨j, by omega, hk⟩)))
theorem legalMore_k (k5 : m_law05_known 19999 = some true) (p : Pg) (n : Int) (hn : (Lit.int .u8 n).wf = true) : m_law05_LegalMore 20000 p n = some true := by
  have hr := u8_range hn
  rw [m_law05_LegalMore, light4_m _ p (by omega), Option.bind_some]
  cases h : lgP p with
  | false => rw [cond_false, k5]; rfl
  | true =>
    obtain ⟨hb, hl⟩ := lgP_bound h
    rw [cond_true, check_p2 _ p hb (by omega), Option.bind_some]
    by_cases e : (checkR p).1 = 0
    · have g := (good_iff p).1 e
      have hm : 2 ≤ p.f_Mod ∧ p.f_Mod ≤ 16 := of_decide_eq_true (g.2 _ ((mem_checks p _).2 (.inl rfl)))
      have hN : 0 ≤ Int.tmod (IntKind.i64.wrap n) p.f_Mod ∧ Int.tmod (IntKind.i64.wrap n) p.f_Mod < p.f_Mod := by
        rw [wrap64 (by omega)]
        exact ⟨Int.tmod_nonneg _ (by omega), Int.tmod_lt_of_pos _ (by omega)⟩
      rw [e, show ((0 : Int) != 0) = false from rfl, cond_false, bif_decide (by omega), bif_not (show ¬ p.f_Mod = 0 by omega), bif_decide (by omega), plocs_m _ p (by omega) (by omega), Option.bind_some, show ([102,114,101,115,104,95,110,97,109,101] : List UInt8) = freshS from rfl, pindex_m _ (nmL p.f_Locs) freshS (by rw [nmL, List.length_map]; omega) (by omega), Option.bind_some, pos_ge0, taken_L p hb, Option.bind_some]
      dsimp only
      generalize Int.tmod (IntKind.i64.wrap n) p.f_Mod = N at *
      rw [show (⟨p.f_Mod, p.f_Locs ++ [(⟨freshS, N, 7⟩ : S_api_Var)], p.f_Threads, p.f_Claims⟩ : S_api_Prog) = moreP p N from rfl, check_p2 _ _ (bound_more hb hl N) (by omega), Option.bind_some, k5]
      by_cases c : 6 ≤ p.f_Locs.length
      · rw [bif_decide (show (6 : Int) ≤ ((p.f_Locs.length : Nat) : Int) by omega), full_more g hN c]; rfl
      · rw [bif_not (show ¬ (6 : Int) ≤ ((p.f_Locs.length : Nat) : Int) by omega)]
        cases ht : takenB p with
        | false => rw [check_good (good_more g hN (by omega) ht)]; rfl
        | true =>
          rw [check_bad (fun hg => by have := bad_more hg; rw [ht] at this; cases this)]; rfl
    · rw [bne_iff_ne.2 e, cond_true, k5]; rfl
end Go.Proofs.Ytpnhafdimkmbbaa
end
section
namespace Go.Proofs.Ytpnhafdimkmbbaa
set_option linter.unusedVariables false
set_option maxRecDepth 100000
theorem known05n : m_law05_known 19999 = some true := by decide +kernel
theorem legalMore_m (p : S_api_Prog) (n : Int) (hn : (Lit.int .u8 n).wf = true) : m_law05_LegalMore 20000 p n = some true := legalMore_k known05n p n hn
end Go.Proofs.Ytpnhafdimkmbbaa
end
section
namespace Go.Proofs.Ytpnhafdimkmbbaa
set_option linter.unusedVariables false
set_option linter.unusedSimpArgs false
set_option maxRecDepth 100000
set_option maxHeartbeats 4000000
theorem ok_legal_checker_must {n:Nat} ⦃v1_so:Bool⦄ ⦃v2_e:Int⦄ ⦃v3_at:Int⦄ ⦃c_p_Mod:Int⦄ ⦃c_p_Locs:(List S_api_Var)⦄ ⦃c_p_Threads:(List S_api_Thread)⦄ ⦃c_p_Claims:(List S_api_Claim)⦄ ⦃c_e:Int⦄ ⦃c_at:Int⦄ ⦃o1_m:(List ((List UInt8)×Int))⦄ ⦃o2_m:(List ((List UInt8)×(List ((List UInt8)×Int))))⦄ ⦃r:(Bool×Int×Int)⦄:m_legal_checker_must n v1_so v2_e v3_at c_p_Mod c_p_Locs c_p_Threads c_p_Claims c_e c_at o1_m o2_m=some r→CN n 16 [AV.ptr 0 0,bA v1_so,iA v2_e,iA v3_at] [Ob.var 52 [iA c_p_Mod,AV.sl 3 (List.map c_api_Var c_p_Locs),AV.sl 4 (List.map c_api_Thread c_p_Threads),AV.sl 3 (List.map c_api_Claim c_p_Claims),AV.mapp 1,AV.mapp 2,iA c_e,iA c_at],Ob.mp none false (List.map c_mp_map_string_int o1_m),Ob.mp none false (List.map c_mp_map_string_map_string_int o2_m)]=some (bA r.1,[Ob.var 52 [iA c_p_Mod,AV.sl 3 (List.map c_api_Var c_p_Locs),AV.sl 4 (List.map c_api_Thread c_p_Threads),AV.sl 3 (List.map c_api_Claim c_p_Claims),AV.mapp 1,AV.mapp 2,iA r.2.1,iA r.2.2],Ob.mp none false (List.map c_mp_map_string_int o1_m),Ob.mp none false (List.map c_mp_map_string_map_string_int o2_m)]):=by
 intro h;rcases n with _|n;cases h
 rw [m_legal_checker_must] at h
 refine callN_eq' Try.func16 (by rfl) rfl rfl (Nat.le_of_ble_eq_true rfl) ?_
 intro call hc;conv=>lhs;whnf
 revert h
 refine br ?_ ?_
 intro h;cases sj h
 try simp only [ls]
 exact fq (y:=some (bA ((c_e==0)),[Ob.var 52 [iA c_p_Mod,AV.sl 3 (List.map c_api_Var c_p_Locs),AV.sl 4 (List.map c_api_Thread c_p_Threads),AV.sl 3 (List.map c_api_Claim c_p_Claims),AV.mapp 1,AV.mapp 2,iA c_e,iA c_at],Ob.mp none false (List.map c_mp_map_string_int o1_m),Ob.mp none false (List.map c_mp_map_string_map_string_int o2_m)]))
 refine br ?_ ?_
 intro h;cases sj h
 try simp only [ls]
 exact fq (y:=some (bA ((v2_e==0)),[Ob.var 52 [iA c_p_Mod,AV.sl 3 (List.map c_api_Var c_p_Locs),AV.sl 4 (List.map c_api_Thread c_p_Threads),AV.sl 3 (List.map c_api_Claim c_p_Claims),AV.mapp 1,AV.mapp 2,iA v2_e,iA v3_at],Ob.mp none false (List.map c_mp_map_string_int o1_m),Ob.mp none false (List.map c_mp_map_string_map_string_int o2_m)]))
 intro h;cases sj h
 try simp only [ls]
 exact fq (y:=some (bA ((c_e==0)),[Ob.var 52 [iA c_p_Mod,AV.sl 3 (List.map c_api_Var c_p_Locs),AV.sl 4 (List.map c_api_Thread c_p_Threads),AV.sl 3 (List.map c_api_Claim c_p_Claims),AV.mapp 1,AV.mapp 2,iA c_e,iA c_at],Ob.mp none false (List.map c_mp_map_string_int o1_m),Ob.mp none false (List.map c_mp_map_string_map_string_int o2_m)]))
theorem ok_legal_checker_claim_1 {n:Nat} ⦃v0_y:S_api_Node⦄ ⦃o1_p_Mod:Int⦄ ⦃o1_p_Locs:(List S_api_Var)⦄ ⦃o1_p_Threads:(List S_api_Thread)⦄ ⦃o1_p_Claims:(List S_api_Claim)⦄ ⦃o1_e:Int⦄ ⦃o1_at:Int⦄ ⦃o2_m:(List ((List UInt8)×Int))⦄ ⦃o3_m:(List ((List UInt8)×(List ((List UInt8)×Int))))⦄ ⦃r:Bool⦄:m_legal_checker_claim_1 n v0_y o1_p_Mod o1_p_Locs o1_p_Threads o1_p_Claims o1_e o1_at o2_m o3_m=some r→CN n 31 [AV.agg [iA v0_y.f_Op,iA v0_y.f_N,sA v0_y.f_Name,sA v0_y.f_In,iA v0_y.f_At],AV.ptr 0 0] [Ob.var 48 [AV.ptr 1 0],Ob.var 52 [iA o1_p_Mod,AV.sl 3 (List.map c_api_Var o1_p_Locs),AV.sl 4 (List.map c_api_Thread o1_p_Threads),AV.sl 3 (List.map c_api_Claim o1_p_Claims),AV.mapp 2,AV.mapp 3,iA o1_e,iA o1_at],Ob.mp none false (List.map c_mp_map_string_int o2_m),Ob.mp none false (List.map c_mp_map_string_map_string_int o3_m)]=some (bA r,[Ob.var 48 [AV.ptr 1 0],Ob.var 52 [iA o1_p_Mod,AV.sl 3 (List.map c_api_Var o1_p_Locs),AV.sl 4 (List.map c_api_Thread o1_p_Threads),AV.sl 3 (List.map c_api_Claim o1_p_Claims),AV.mapp 2,AV.mapp 3,iA o1_e,iA o1_at],Ob.mp none false (List.map c_mp_map_string_int o2_m),Ob.mp none false (List.map c_mp_map_string_map_string_int o3_m)]):=by
 intro h;rcases n with _|n;cases h
 rw [m_legal_checker_claim_1] at h
 refine callN_eq' Try.func31 (by rfl) rfl rfl (Nat.le_of_ble_eq_true rfl) ?_
 intro call hc;conv=>lhs;whnf
 revert h
 refine br ?_ ?_
 intro h
 simp only [look_c_mp_map_string_int,ls]
 conv=>lhs;whnf
 revert h
 intro h;cases sj h
 try simp only [ls]
 exact fq (y:=some (bA (decide (0<(mget o2_m v0_y.f_Name 0))),[Ob.var 48 [AV.ptr 1 0],Ob.var 52 [iA o1_p_Mod,AV.sl 3 (List.map c_api_Var o1_p_Locs),AV.sl 4 (List.map c_api_Thread o1_p_Threads),AV.sl 3 (List.map c_api_Claim o1_p_Claims),AV.mapp 2,AV.mapp 3,iA o1_e,iA o1_at],Ob.mp none false (List.map c_mp_map_string_int o2_m),Ob.mp none false (List.map c_mp_map_string_map_string_int o3_m)]))
 intro h
 simp only [look_c_mp_map_string_map_string_int,ls]
 conv=>lhs;whnf
 revert h
 intro h
 simp only [look_c_mp_map_string_int,ls]
 conv=>lhs;whnf
 revert h
 intro h;cases sj h
 try simp only [ls]
 exact fq (y:=some (bA (decide (0<(mget (mget o3_m v0_y.f_In ([]:(List ((List UInt8)×Int)))) v0_y.f_Name 0))),[Ob.var 48 [AV.ptr 1 0],Ob.var 52 [iA o1_p_Mod,AV.sl 3 (List.map c_api_Var o1_p_Locs),AV.sl 4 (List.map c_api_Thread o1_p_Threads),AV.sl 3 (List.map c_api_Claim o1_p_Claims),AV.mapp 2,AV.mapp 3,iA o1_e,iA o1_at],Ob.mp none false (List.map c_mp_map_string_int o2_m),Ob.mp none false (List.map c_mp_map_string_map_string_int o3_m)]))
theorem ok_legal_checker_nodes {n:Nat} ⦃v1_l:(List S_api_Node)⦄ ⦃c_p_Mod:Int⦄ ⦃c_p_Locs:(List S_api_Var)⦄ ⦃c_p_Threads:(List S_api_Thread)⦄ ⦃c_p_Claims:(List S_api_Claim)⦄ ⦃c_e:Int⦄ ⦃c_at:Int⦄ ⦃o1_m:(List ((List UInt8)×Int))⦄ ⦃o2_m:(List ((List UInt8)×(List ((List UInt8)×Int))))⦄ ⦃r:(Int×Int)⦄:m_legal_checker_nodes n v1_l c_p_Mod c_p_Locs c_p_Threads c_p_Claims c_e c_at o1_m o2_m=some r→CN n 30 [AV.ptr 0 0,AV.sl 5 (List.map c_api_Node v1_l),AV.func 31 [] [AV.ptr 3 0]] [Ob.var 52 [iA c_p_Mod,AV.sl 3 (List.map c_api_Var c_p_Locs),AV.sl 4 (List.map c_api_Thread c_p_Threads),AV.sl 3 (List.map c_api_Claim c_p_Claims),AV.mapp 1,AV.mapp 2,iA c_e,iA c_at],Ob.mp none false (List.map c_mp_map_string_int o1_m),Ob.mp none false (List.map c_mp_map_string_map_string_int o2_m),Ob.var 48 [AV.ptr 0 0]]=some (AV.tup [],[Ob.var 52 [iA c_p_Mod,AV.sl 3 (List.map c_api_Var c_p_Locs),AV.sl 4 (List.map c_api_Thread c_p_Threads),AV.sl 3 (List.map c_api_Claim c_p_Claims),AV.mapp 1,AV.mapp 2,iA r.1,iA r.2],Ob.mp none false (List.map c_mp_map_string_int o1_m),Ob.mp none false (List.map c_mp_map_string_map_string_int o2_m),Ob.var 48 [AV.ptr 0 0]]):=by
 intro h;rcases n with _|n;cases h
 rw [m_legal_checker_nodes] at h
 refine callN_eq' Try.func30 (by rfl) rfl rfl (Nat.le_of_ble_eq_true rfl) ?_
 intro call hc;conv=>lhs;whnf
 revert h
 intro h;refine bind_some2 h ?_;clear h;intro o11 ho11 h
 refine lq (σ:=(Int×Int×Int)) (τ:=(Int×Int)) (ν:=(Int×Int)) 0 (fun (s1,s2,s3) a5=>stOf 42 [(0,AV.ptr 0 0),(2,AV.func 31 [] [AV.ptr 3 0]),(8,AV.sl 5 (List.map c_api_Node v1_l)),(9,iA (((v1_l.length:Nat):Int))),(10,iA s1)]) (fun (s1,s2,s3) a5=>[Ob.var 52 [iA c_p_Mod,AV.sl 3 (List.map c_api_Var c_p_Locs),AV.sl 4 (List.map c_api_Thread c_p_Threads),AV.sl 3 (List.map c_api_Claim c_p_Claims),AV.mapp 1,AV.mapp 2,iA s2,iA s3],Ob.mp none false (List.map c_mp_map_string_int o1_m),Ob.mp none false (List.map c_mp_map_string_map_string_int o2_m),Ob.var 48 [AV.ptr 0 0]]) (fun (x33,x34) a32=>stOf 42 []) (fun (x33,x34) a32=>[Ob.var 52 [iA c_p_Mod,AV.sl 3 (List.map c_api_Var c_p_Locs),AV.sl 4 (List.map c_api_Thread c_p_Threads),AV.sl 3 (List.map c_api_Claim c_p_Claims),AV.mapp 1,AV.mapp 2,iA x33,iA x34],Ob.mp none false (List.map c_mp_map_string_int o1_m),Ob.mp none false (List.map c_mp_map_string_map_string_int o2_m),Ob.var 48 [AV.ptr 0 0]]) (fun v=>(AV.tup [],[Ob.var 52 [iA c_p_Mod,AV.sl 3 (List.map c_api_Var c_p_Locs),AV.sl 4 (List.map c_api_Thread c_p_Threads),AV.sl 3 (List.map c_api_Claim c_p_Claims),AV.mapp 1,AV.mapp 2,iA v.1,iA v.2],Ob.mp none false (List.map c_mp_map_string_int o1_m),Ob.mp none false (List.map c_mp_map_string_map_string_int o2_m),Ob.var 48 [AV.ptr 0 0]])) (fun k s=>legal_checker_nodes_L0 n v1_l c_p_Mod c_p_Locs c_p_Threads c_p_Claims o1_m o2_m k s.1 s.2.1 s.2.2) (fun s=>rfl) o11 n (0,c_e,c_at) (fun _=>0) ho11 ?_ ?_
 intro k4 ss a5 K6 cont7 hK8 hcont9 h hr10
 obtain ⟨s1,s2,s3⟩:=ss
 replace h:legal_checker_nodes_L0 n v1_l c_p_Mod c_p_Locs c_p_Threads c_p_Claims o1_m o2_m (k4+1) s1 s2 s3=some o11:=h
 rw [legal_checker_nodes_L0] at h
 conv=>lhs;whnf
 revert h
 refine br ?_ ?_
 refine ix ?_;intro x13
 refine br ?_ ?_
 refine ca hc (fun _ h=>ok_legal_checker_must h) ?_;intro y15
 exact fun h=>cq (hcont9 (IntKind.i64.wrap (s1+1),y15.2.1,y15.2.2) (fun _=>0) h)
 refine br ?_ ?_
 refine ca hc (fun _ h=>ok_legal_checker_claim_1 h) ?_;intro y18
 refine ca hc (fun _ h=>ok_legal_checker_must h) ?_;intro y20
 exact fun h=>cq (hcont9 (IntKind.i64.wrap (s1+1),y20.2.1,y20.2.2) (fun _=>0) h)
 refine br ?_ ?_
 refine ca hc (fun _ h=>ok_legal_checker_claim_1 h) ?_;intro y23
 refine ca hc (fun _ h=>ok_legal_checker_must h) ?_;intro y25
 exact fun h=>cq (hcont9 (IntKind.i64.wrap (s1+1),y25.2.1,y25.2.2) (fun _=>0) h)
 refine br ?_ ?_
 refine ca hc (fun _ h=>ok_legal_checker_claim_1 h) ?_;intro y28
 refine ca hc (fun _ h=>ok_legal_checker_must h) ?_;intro y30
 exact fun h=>cq (hcont9 (IntKind.i64.wrap (s1+1),y30.2.1,y30.2.2) (fun _=>0) h)
 exact fun h=>cq (hcont9 (IntKind.i64.wrap (s1+1),s2,s3) (fun _=>0) h)
 intro h;cases sj h
 exact kq (hr10 (fun _=>0))
 refine lrc ?_ ?_
 intro v e;subst e;cases sj h;rfl
 intro t a32 e;subst e
 obtain ⟨x33,x34⟩:=t
 dsimp only at h
 conv=>lhs;whnf
 revert h
 intro h;cases sj h
 try simp only [ls]
 exact fq (y:=some (AV.tup [],[Ob.var 52 [iA c_p_Mod,AV.sl 3 (List.map c_api_Var c_p_Locs),AV.sl 4 (List.map c_api_Thread c_p_Threads),AV.sl 3 (List.map c_api_Claim c_p_Claims),AV.mapp 1,AV.mapp 2,iA x33,iA x34],Ob.mp none false (List.map c_mp_map_string_int o1_m),Ob.mp none false (List.map c_mp_map_string_map_string_int o2_m),Ob.var 48 [AV.ptr 0 0]]))
theorem ok_legal_checker_claim {n:Nat} ⦃v1_i:Int⦄ ⦃v2_x:S_api_Claim⦄ ⦃c_p_Mod:Int⦄ ⦃c_p_Locs:(List S_api_Var)⦄ ⦃c_p_Threads:(List S_api_Thread)⦄ ⦃c_p_Claims:(List S_api_Claim)⦄ ⦃c_e:Int⦄ ⦃c_at:Int⦄ ⦃o1_m:(List ((List UInt8)×Int))⦄ ⦃o2_m:(List ((List UInt8)×(List ((List UInt8)×Int))))⦄ ⦃r:(Int×Int)⦄:m_legal_checker_claim n v1_i v2_x c_p_Mod c_p_Locs c_p_Threads c_p_Claims c_e c_at o1_m o2_m=some r→CN n 19 [AV.ptr 0 0,iA v1_i,AV.agg [iA v2_x.f_Kind,AV.sl 5 (List.map c_api_Node v2_x.f_E),iA v2_x.f_At]] [Ob.var 52 [iA c_p_Mod,AV.sl 3 (List.map c_api_Var c_p_Locs),AV.sl 4 (List.map c_api_Thread c_p_Threads),AV.sl 3 (List.map c_api_Claim c_p_Claims),AV.mapp 1,AV.mapp 2,iA c_e,iA c_at],Ob.mp none false (List.map c_mp_map_string_int o1_m),Ob.mp none false (List.map c_mp_map_string_map_string_int o2_m)]=some (AV.tup [],[Ob.var 52 [iA c_p_Mod,AV.sl 3 (List.map c_api_Var c_p_Locs),AV.sl 4 (List.map c_api_Thread c_p_Threads),AV.sl 3 (List.map c_api_Claim c_p_Claims),AV.mapp 1,AV.mapp 2,iA r.1,iA r.2],Ob.mp none false (List.map c_mp_map_string_int o1_m),Ob.mp none false (List.map c_mp_map_string_map_string_int o2_m)]):=by
 intro h;rcases n with _|n;cases h
 rw [m_legal_checker_claim] at h
 refine callN_eq' Try.func19 (by rfl) rfl rfl (Nat.le_of_ble_eq_true rfl) ?_
 intro call hc;conv=>lhs;whnf
 revert h
 refine ca hc (fun _ h=>ok_legal_checker_must h) ?_;intro y1
 refine ca hc (fun _ h=>ok_legal_checker_nodes h) ?_;intro y3
 intro h;cases sj h
 try simp only [ls]
 exact fq (y:=some (AV.tup [],[Ob.var 52 [iA c_p_Mod,AV.sl 3 (List.map c_api_Var c_p_Locs),AV.sl 4 (List.map c_api_Thread c_p_Threads),AV.sl 3 (List.map c_api_Claim c_p_Claims),AV.mapp 1,AV.mapp 2,iA y3.1,iA y3.2],Ob.mp none false (List.map c_mp_map_string_int o1_m),Ob.mp none false (List.map c_mp_map_string_map_string_int o2_m)]))
theorem ok_legal_checker_body_1z {n:Nat} ⦃v0_x:S_api_Node⦄ ⦃o1_m:(List ((List UInt8)×Int))⦄ ⦃r:Bool⦄:m_legal_checker_body_1z n v0_x o1_m=some r→CN n 49 [AV.agg [iA v0_x.f_Op,iA v0_x.f_N,sA v0_x.f_Name,sA v0_x.f_In,iA v0_x.f_At],AV.ptr 0 0] [Ob.var 49 [AV.mapp 1],Ob.mp none false (List.map c_mp_map_string_int o1_m)]=some (bA r,[Ob.var 49 [AV.mapp 1],Ob.mp none false (List.map c_mp_map_string_int o1_m)]):=by
 intro h;rcases n with _|n;cases h
 rw [m_legal_checker_body_1z] at h
 refine callN_eq' Try.func49 (by rfl) rfl rfl (Nat.le_of_ble_eq_true rfl) ?_
 intro call hc;conv=>lhs;whnf
 revert h
 intro h
 simp only [look_c_mp_map_string_int,ls]
 conv=>lhs;whnf
 revert h
 intro h;cases sj h
 try simp only [ls]
 exact fq (y:=some (bA (decide (0<(mget o1_m v0_x.f_Name 0))),[Ob.var 49 [AV.mapp 1],Ob.mp none false (List.map c_mp_map_string_int o1_m)]))
theorem ok_legal_checker_nodes_1 {n:Nat} ⦃v1_l:(List S_api_Node)⦄ ⦃c_p_Mod:Int⦄ ⦃c_p_Locs:(List S_api_Var)⦄ ⦃c_p_Threads:(List S_api_Thread)⦄ ⦃c_p_Claims:(List S_api_Claim)⦄ ⦃c_e:Int⦄ ⦃c_at:Int⦄ ⦃o1_m:(List ((List UInt8)×Int))⦄ ⦃o2_m:(List ((List UInt8)×(List ((List UInt8)×Int))))⦄ ⦃o4_m:(List ((List UInt8)×Int))⦄ ⦃r:(Int×Int)⦄:m_legal_checker_nodes_1 n v1_l c_p_Mod c_p_Locs c_p_Threads c_p_Claims c_e c_at o1_m o2_m o4_m=some r→CN n 30 [AV.ptr 0 0,AV.sl 5 (List.map c_api_Node v1_l),AV.func 49 [] [AV.ptr 3 0]] [Ob.var 52 [iA c_p_Mod,AV.sl 3 (List.map c_api_Var c_p_Locs),AV.sl 4 (List.map c_api_Thread c_p_Threads),AV.sl 3 (List.map c_api_Claim c_p_Claims),AV.mapp 1,AV.mapp 2,iA c_e,iA c_at],Ob.mp none false (List.map c_mp_map_string_int o1_m),Ob.mp none false (List.map c_mp_map_string_map_string_int o2_m),Ob.var 49 [AV.mapp 4],Ob.mp none false (List.map c_mp_map_string_int o4_m)]=some (AV.tup [],[Ob.var 52 [iA c_p_Mod,AV.sl 3 (List.map c_api_Var c_p_Locs),AV.sl 4 (List.map c_api_Thread c_p_Threads),AV.sl 3 (List.map c_api_Claim c_p_Claims),AV.mapp 1,AV.mapp 2,iA r.1,iA r.2],Ob.mp none false (List.map c_mp_map_string_int o1_m),Ob.mp none false (List.map c_mp_map_string_map_string_int o2_m),Ob.var 49 [AV.mapp 4],Ob.mp none false (List.map c_mp_map_string_int o4_m)]):=by
 intro h;rcases n with _|n;cases h
 rw [m_legal_checker_nodes_1] at h
 refine callN_eq' Try.func30 (by rfl) rfl rfl (Nat.le_of_ble_eq_true rfl) ?_
 intro call hc;conv=>lhs;whnf
 revert h
 intro h;refine bind_some2 h ?_;clear h;intro o11 ho11 h
 refine lq (σ:=(Int×Int×Int)) (τ:=(Int×Int)) (ν:=(Int×Int)) 0 (fun (s1,s2,s3) a5=>stOf 42 [(0,AV.ptr 0 0),(2,AV.func 49 [] [AV.ptr 3 0]),(8,AV.sl 5 (List.map c_api_Node v1_l)),(9,iA (((v1_l.length:Nat):Int))),(10,iA s1)]) (fun (s1,s2,s3) a5=>[Ob.var 52 [iA c_p_Mod,AV.sl 3 (List.map c_api_Var c_p_Locs),AV.sl 4 (List.map c_api_Thread c_p_Threads),AV.sl 3 (List.map c_api_Claim c_p_Claims),AV.mapp 1,AV.mapp 2,iA s2,iA s3],Ob.mp none false (List.map c_mp_map_string_int o1_m),Ob.mp none false (List.map c_mp_map_string_map_string_int o2_m),Ob.var 49 [AV.mapp 4],Ob.mp none false (List.map c_mp_map_string_int o4_m)]) (fun (x33,x34) a32=>stOf 42 []) (fun (x33,x34) a32=>[Ob.var 52 [iA c_p_Mod,AV.sl 3 (List.map c_api_Var c_p_Locs),AV.sl 4 (List.map c_api_Thread c_p_Threads),AV.sl 3 (List.map c_api_Claim c_p_Claims),AV.mapp 1,AV.mapp 2,iA x33,iA x34],Ob.mp none false (List.map c_mp_map_string_int o1_m),Ob.mp none false (List.map c_mp_map_string_map_string_int o2_m),Ob.var 49 [AV.mapp 4],Ob.mp none false (List.map c_mp_map_string_int o4_m)]) (fun v=>(AV.tup [],[Ob.var 52 [iA c_p_Mod,AV.sl 3 (List.map c_api_Var c_p_Locs),AV.sl 4 (List.map c_api_Thread c_p_Threads),AV.sl 3 (List.map c_api_Claim c_p_Claims),AV.mapp 1,AV.mapp 2,iA v.1,iA v.2],Ob.mp none false (List.map c_mp_map_string_int o1_m),Ob.mp none false (List.map c_mp_map_string_map_string_int o2_m),Ob.var 49 [AV.mapp 4],Ob.mp none false (List.map c_mp_map_string_int o4_m)])) (fun k s=>legal_checker_nodes_1_L0 n v1_l c_p_Mod c_p_Locs c_p_Threads c_p_Claims o1_m o2_m o4_m k s.1 s.2.1 s.2.2) (fun s=>rfl) o11 n (0,c_e,c_at) (fun _=>0) ho11 ?_ ?_
 intro k4 ss a5 K6 cont7 hK8 hcont9 h hr10
 obtain ⟨s1,s2,s3⟩:=ss
 replace h:legal_checker_nodes_1_L0 n v1_l c_p_Mod c_p_Locs c_p_Threads c_p_Claims o1_m o2_m o4_m (k4+1) s1 s2 s3=some o11:=h
 rw [legal_checker_nodes_1_L0] at h
 conv=>lhs;whnf
 revert h
 refine br ?_ ?_
 refine ix ?_;intro x13
 refine br ?_ ?_
 refine ca hc (fun _ h=>ok_legal_checker_must h) ?_;intro y15
 exact fun h=>cq (hcont9 (IntKind.i64.wrap (s1+1),y15.2.1,y15.2.2) (fun _=>0) h)
 refine br ?_ ?_
 refine ca hc (fun _ h=>ok_legal_checker_body_1z h) ?_;intro y18
 refine ca hc (fun _ h=>ok_legal_checker_must h) ?_;intro y20
 exact fun h=>cq (hcont9 (IntKind.i64.wrap (s1+1),y20.2.1,y20.2.2) (fun _=>0) h)
 refine br ?_ ?_
 refine ca hc (fun _ h=>ok_legal_checker_body_1z h) ?_;intro y23
 refine ca hc (fun _ h=>ok_legal_checker_must h) ?_;intro y25
 exact fun h=>cq (hcont9 (IntKind.i64.wrap (s1+1),y25.2.1,y25.2.2) (fun _=>0) h)
 refine br ?_ ?_
 refine ca hc (fun _ h=>ok_legal_checker_body_1z h) ?_;intro y28
 refine ca hc (fun _ h=>ok_legal_checker_must h) ?_;intro y30
 exact fun h=>cq (hcont9 (IntKind.i64.wrap (s1+1),y30.2.1,y30.2.2) (fun _=>0) h)
 exact fun h=>cq (hcont9 (IntKind.i64.wrap (s1+1),s2,s3) (fun _=>0) h)
 intro h;cases sj h
 exact kq (hr10 (fun _=>0))
 refine lrc ?_ ?_
 intro v e;subst e;cases sj h;rfl
 intro t a32 e;subst e
 obtain ⟨x33,x34⟩:=t
 dsimp only at h
 conv=>lhs;whnf
 revert h
 intro h;cases sj h
 try simp only [ls]
 exact fq (y:=some (AV.tup [],[Ob.var 52 [iA c_p_Mod,AV.sl 3 (List.map c_api_Var c_p_Locs),AV.sl 4 (List.map c_api_Thread c_p_Threads),AV.sl 3 (List.map c_api_Claim c_p_Claims),AV.mapp 1,AV.mapp 2,iA x33,iA x34],Ob.mp none false (List.map c_mp_map_string_int o1_m),Ob.mp none false (List.map c_mp_map_string_map_string_int o2_m),Ob.var 49 [AV.mapp 4],Ob.mp none false (List.map c_mp_map_string_int o4_m)]))
theorem ok_legal_checker_body {n:Nat} ⦃v1_t:S_api_Thread⦄ ⦃c_p_Mod:Int⦄ ⦃c_p_Locs:(List S_api_Var)⦄ ⦃c_p_Threads:(List S_api_Thread)⦄ ⦃c_p_Claims:(List S_api_Claim)⦄ ⦃c_e:Int⦄ ⦃c_at:Int⦄ ⦃o1_m:(List ((List UInt8)×Int))⦄ ⦃o2_m:(List ((List UInt8)×(List ((List UInt8)×Int))))⦄ ⦃o3_m:(List ((List UInt8)×Int))⦄ ⦃r:(Int×Int)⦄:m_legal_checker_body n v1_t c_p_Mod c_p_Locs c_p_Threads c_p_Claims c_e c_at o1_m o2_m o3_m=some r→CN n 29 [AV.ptr 0 0,AV.agg [sA v1_t.f_Name,AV.sl 1 (List.map encS v1_t.f_Regs),AV.sl 9 (List.map c_api_Stmt v1_t.f_Body),iA v1_t.f_At],AV.mapp 3] [Ob.var 52 [iA c_p_Mod,AV.sl 3 (List.map c_api_Var c_p_Locs),AV.sl 4 (List.map c_api_Thread c_p_Threads),AV.sl 3 (List.map c_api_Claim c_p_Claims),AV.mapp 1,AV.mapp 2,iA c_e,iA c_at],Ob.mp none false (List.map c_mp_map_string_int o1_m),Ob.mp none false (List.map c_mp_map_string_map_string_int o2_m),Ob.mp none false (List.map c_mp_map_string_int o3_m)]=some (AV.tup [],[Ob.var 52 [iA c_p_Mod,AV.sl 3 (List.map c_api_Var c_p_Locs),AV.sl 4 (List.map c_api_Thread c_p_Threads),AV.sl 3 (List.map c_api_Claim c_p_Claims),AV.mapp 1,AV.mapp 2,iA r.1,iA r.2],Ob.mp none false (List.map c_mp_map_string_int o1_m),Ob.mp none false (List.map c_mp_map_string_map_string_int o2_m),Ob.mp none false (List.map c_mp_map_string_int o3_m)]):=by
 intro h;rcases n with _|n;cases h
 rw [m_legal_checker_body] at h
 refine callN_eq' Try.func29 (by rfl) rfl rfl (Nat.le_of_ble_eq_true rfl) ?_
 intro call hc;conv=>lhs;whnf
 revert h
 intro h;refine bind_some2 h ?_;clear h;intro o12 ho12 h
 refine lq (σ:=(Int×Int×Int×Int)) (τ:=(Int×Int)) (ν:=(Int×Int)) 0 (fun (s1,s2,s3,s4) a6=>stOf 82 [(0,AV.ptr 0 0),(5,AV.ptr 5 0),(6,iA s1),(7,AV.func 49 [] [AV.ptr 5 0]),(12,AV.sl 9 (List.map c_api_Stmt v1_t.f_Body)),(13,iA (((v1_t.f_Body.length:Nat):Int))),(14,iA s2)]) (fun (s1,s2,s3,s4) a6=>[Ob.var 52 [iA c_p_Mod,AV.sl 3 (List.map c_api_Var c_p_Locs),AV.sl 4 (List.map c_api_Thread c_p_Threads),AV.sl 3 (List.map c_api_Claim c_p_Claims),AV.mapp 1,AV.mapp 2,iA s3,iA s4],Ob.mp none false (List.map c_mp_map_string_int o1_m),Ob.mp none false (List.map c_mp_map_string_map_string_int o2_m),Ob.mp none false (List.map c_mp_map_string_int o3_m),Ob.var 40 [sA v1_t.f_Name,AV.sl 1 (List.map encS v1_t.f_Regs),AV.sl 9 (List.map c_api_Stmt v1_t.f_Body),iA v1_t.f_At],Ob.var 49 [AV.mapp 3]]) (fun (x145,x146) a144=>stOf 82 []) (fun (x145,x146) a144=>[Ob.var 52 [iA c_p_Mod,AV.sl 3 (List.map c_api_Var c_p_Locs),AV.sl 4 (List.map c_api_Thread c_p_Threads),AV.sl 3 (List.map c_api_Claim c_p_Claims),AV.mapp 1,AV.mapp 2,iA x145,iA x146],Ob.mp none false (List.map c_mp_map_string_int o1_m),Ob.mp none false (List.map c_mp_map_string_map_string_int o2_m),Ob.mp none false (List.map c_mp_map_string_int o3_m),Ob.var 40 [sA v1_t.f_Name,AV.sl 1 (List.map encS v1_t.f_Regs),AV.sl 9 (List.map c_api_Stmt v1_t.f_Body),iA v1_t.f_At],Ob.var 49 [AV.mapp 3]]) (fun v=>(AV.tup [],[Ob.var 52 [iA c_p_Mod,AV.sl 3 (List.map c_api_Var c_p_Locs),AV.sl 4 (List.map c_api_Thread c_p_Threads),AV.sl 3 (List.map c_api_Claim c_p_Claims),AV.mapp 1,AV.mapp 2,iA v.1,iA v.2],Ob.mp none false (List.map c_mp_map_string_int o1_m),Ob.mp none false (List.map c_mp_map_string_map_string_int o2_m),Ob.mp none false (List.map c_mp_map_string_int o3_m)])) (fun k s=>legal_checker_body_L0 n v1_t c_p_Mod c_p_Locs c_p_Threads c_p_Claims o1_m o2_m o3_m k s.1 s.2.1 s.2.2.1 s.2.2.2) (fun s=>rfl) o12 n (0,0,c_e,c_at) (fun _=>0) ho12 ?_ ?_
 intro k5 ss a6 K7 cont8 hK9 hcont10 h hr11
 obtain ⟨s1,s2,s3,s4⟩:=ss
 replace h:legal_checker_body_L0 n v1_t c_p_Mod c_p_Locs c_p_Threads c_p_Claims o1_m o2_m o3_m (k5+1) s1 s2 s3 s4=some o12:=h
 rw [legal_checker_body_L0] at h
 conv=>lhs;whnf
 revert h
 refine br ?_ ?_
 refine ix ?_;intro x14
 refine br ?_ ?_
 refine br ?_ ?_
 refine ca hc (fun _ h=>ok_legal_checker_must h) ?_;intro y17
 refine br ?_ ?_
 refine ca hc (fun _ h=>ok_legal_checker_must h) ?_;intro y20
 refine ca hc (fun _ h=>ok_legal_checker_nodes_1 h) ?_;intro y22
 refine ca hc (fun _ h=>ok_legal_checker_nodes_1 h) ?_;intro y24
 exact fun h=>cq (hcont10 ((if s1<(IntKind.i64.wrap ((IntKind.i64.wrap (s2+1))+x14.f_Body)) then (IntKind.i64.wrap ((IntKind.i64.wrap (s2+1))+x14.f_Body)) else s1),IntKind.i64.wrap (s2+1),y24.1,y24.2) (fun _=>0) h)
 intro h
 simp only [look_c_mp_map_string_int,ls]
 conv=>lhs;whnf
 revert h
 refine ca hc (fun _ h=>ok_legal_checker_must h) ?_;intro y26
 refine ca hc (fun _ h=>ok_legal_checker_nodes_1 h) ?_;intro y28
 refine ca hc (fun _ h=>ok_legal_checker_nodes_1 h) ?_;intro y30
 exact fun h=>cq (hcont10 ((if s1<(IntKind.i64.wrap ((IntKind.i64.wrap (s2+1))+x14.f_Body)) then (IntKind.i64.wrap ((IntKind.i64.wrap (s2+1))+x14.f_Body)) else s1),IntKind.i64.wrap (s2+1),y30.1,y30.2) (fun _=>0) h)
 intro h
 simp only [look_c_mp_map_string_int,ls]
 conv=>lhs;whnf
 revert h
 refine ca hc (fun _ h=>ok_legal_checker_must h) ?_;intro y32
 refine br ?_ ?_
 refine ca hc (fun _ h=>ok_legal_checker_must h) ?_;intro y35
 refine ca hc (fun _ h=>ok_legal_checker_nodes_1 h) ?_;intro y37
 refine ca hc (fun _ h=>ok_legal_checker_nodes_1 h) ?_;intro y39
 exact fun h=>cq (hcont10 ((if s1<(IntKind.i64.wrap ((IntKind.i64.wrap (s2+1))+x14.f_Body)) then (IntKind.i64.wrap ((IntKind.i64.wrap (s2+1))+x14.f_Body)) else s1),IntKind.i64.wrap (s2+1),y39.1,y39.2) (fun _=>0) h)
 intro h
 simp only [look_c_mp_map_string_int,ls]
 conv=>lhs;whnf
 revert h
 refine ca hc (fun _ h=>ok_legal_checker_must h) ?_;intro y41
 refine ca hc (fun _ h=>ok_legal_checker_nodes_1 h) ?_;intro y43
 refine ca hc (fun _ h=>ok_legal_checker_nodes_1 h) ?_;intro y45
 exact fun h=>cq (hcont10 ((if s1<(IntKind.i64.wrap ((IntKind.i64.wrap (s2+1))+x14.f_Body)) then (IntKind.i64.wrap ((IntKind.i64.wrap (s2+1))+x14.f_Body)) else s1),IntKind.i64.wrap (s2+1),y45.1,y45.2) (fun _=>0) h)
 refine br ?_ ?_
 refine br ?_ ?_
 refine ca hc (fun _ h=>ok_legal_checker_must h) ?_;intro y49
 refine br ?_ ?_
 refine ca hc (fun _ h=>ok_legal_checker_must h) ?_;intro y52
 refine ca hc (fun _ h=>ok_legal_checker_nodes_1 h) ?_;intro y54
 refine ca hc (fun _ h=>ok_legal_checker_nodes_1 h) ?_;intro y56
 exact fun h=>cq (hcont10 ((if s1<(IntKind.i64.wrap ((IntKind.i64.wrap (s2+1))+x14.f_Body)) then (IntKind.i64.wrap ((IntKind.i64.wrap (s2+1))+x14.f_Body)) else s1),IntKind.i64.wrap (s2+1),y56.1,y56.2) (fun _=>0) h)
 intro h
 simp only [look_c_mp_map_string_int,ls]
 conv=>lhs;whnf
 revert h
 refine ca hc (fun _ h=>ok_legal_checker_must h) ?_;intro y58
 refine ca hc (fun _ h=>ok_legal_checker_nodes_1 h) ?_;intro y60
 refine ca hc (fun _ h=>ok_legal_checker_nodes_1 h) ?_;intro y62
 exact fun h=>cq (hcont10 ((if s1<(IntKind.i64.wrap ((IntKind.i64.wrap (s2+1))+x14.f_Body)) then (IntKind.i64.wrap ((IntKind.i64.wrap (s2+1))+x14.f_Body)) else s1),IntKind.i64.wrap (s2+1),y62.1,y62.2) (fun _=>0) h)
 intro h
 simp only [look_c_mp_map_string_int,ls]
 conv=>lhs;whnf
 revert h
 refine ca hc (fun _ h=>ok_legal_checker_must h) ?_;intro y64
 refine br ?_ ?_
 refine ca hc (fun _ h=>ok_legal_checker_must h) ?_;intro y67
 refine ca hc (fun _ h=>ok_legal_checker_nodes_1 h) ?_;intro y69
 refine ca hc (fun _ h=>ok_legal_checker_nodes_1 h) ?_;intro y71
 exact fun h=>cq (hcont10 ((if s1<(IntKind.i64.wrap ((IntKind.i64.wrap (s2+1))+x14.f_Body)) then (IntKind.i64.wrap ((IntKind.i64.wrap (s2+1))+x14.f_Body)) else s1),IntKind.i64.wrap (s2+1),y71.1,y71.2) (fun _=>0) h)
 intro h
 simp only [look_c_mp_map_string_int,ls]
 conv=>lhs;whnf
 revert h
 refine ca hc (fun _ h=>ok_legal_checker_must h) ?_;intro y73
 refine ca hc (fun _ h=>ok_legal_checker_nodes_1 h) ?_;intro y75
 refine ca hc (fun _ h=>ok_legal_checker_nodes_1 h) ?_;intro y77
 exact fun h=>cq (hcont10 ((if s1<(IntKind.i64.wrap ((IntKind.i64.wrap (s2+1))+x14.f_Body)) then (IntKind.i64.wrap ((IntKind.i64.wrap (s2+1))+x14.f_Body)) else s1),IntKind.i64.wrap (s2+1),y77.1,y77.2) (fun _=>0) h)
 refine br ?_ ?_
 refine ca hc (fun _ h=>ok_legal_checker_must h) ?_;intro y80
 refine br ?_ ?_
 refine ca hc (fun _ h=>ok_legal_checker_must h) ?_;intro y83
 refine br ?_ ?_
 refine ca hc (fun _ h=>ok_legal_checker_must h) ?_;intro y86
 refine ca hc (fun _ h=>ok_legal_checker_nodes_1 h) ?_;intro y88
 refine ca hc (fun _ h=>ok_legal_checker_nodes_1 h) ?_;intro y90
 exact fun h=>cq (hcont10 (s1,IntKind.i64.wrap (s2+1),y90.1,y90.2) (fun _=>0) h)
 intro h
 simp only [look_c_mp_map_string_int,ls]
 conv=>lhs;whnf
 revert h
 refine ca hc (fun _ h=>ok_legal_checker_must h) ?_;intro y92
 refine ca hc (fun _ h=>ok_legal_checker_nodes_1 h) ?_;intro y94
 refine ca hc (fun _ h=>ok_legal_checker_nodes_1 h) ?_;intro y96
 exact fun h=>cq (hcont10 (s1,IntKind.i64.wrap (s2+1),y96.1,y96.2) (fun _=>0) h)
 intro h
 simp only [look_c_mp_map_string_int,ls]
 conv=>lhs;whnf
 revert h
 refine ca hc (fun _ h=>ok_legal_checker_must h) ?_;intro y98
 refine br ?_ ?_
 refine ca hc (fun _ h=>ok_legal_checker_must h) ?_;intro y101
 refine ca hc (fun _ h=>ok_legal_checker_nodes_1 h) ?_;intro y103
 refine ca hc (fun _ h=>ok_legal_checker_nodes_1 h) ?_;intro y105
 exact fun h=>cq (hcont10 (s1,IntKind.i64.wrap (s2+1),y105.1,y105.2) (fun _=>0) h)
 intro h
 simp only [look_c_mp_map_string_int,ls]
 conv=>lhs;whnf
 revert h
 refine ca hc (fun _ h=>ok_legal_checker_must h) ?_;intro y107
 refine ca hc (fun _ h=>ok_legal_checker_nodes_1 h) ?_;intro y109
 refine ca hc (fun _ h=>ok_legal_checker_nodes_1 h) ?_;intro y111
 exact fun h=>cq (hcont10 (s1,IntKind.i64.wrap (s2+1),y111.1,y111.2) (fun _=>0) h)
 refine br ?_ ?_
 refine ca hc (fun _ h=>ok_legal_checker_must h) ?_;intro y114
 refine br ?_ ?_
 refine ca hc (fun _ h=>ok_legal_checker_must h) ?_;intro y117
 refine ca hc (fun _ h=>ok_legal_checker_nodes_1 h) ?_;intro y119
 refine ca hc (fun _ h=>ok_legal_checker_nodes_1 h) ?_;intro y121
 exact fun h=>cq (hcont10 (s1,IntKind.i64.wrap (s2+1),y121.1,y121.2) (fun _=>0) h)
 intro h
 simp only [look_c_mp_map_string_int,ls]
 conv=>lhs;whnf
 revert h
 refine ca hc (fun _ h=>ok_legal_checker_must h) ?_;intro y123
 refine ca hc (fun _ h=>ok_legal_checker_nodes_1 h) ?_;intro y125
 refine ca hc (fun _ h=>ok_legal_checker_nodes_1 h) ?_;intro y127
 exact fun h=>cq (hcont10 (s1,IntKind.i64.wrap (s2+1),y127.1,y127.2) (fun _=>0) h)
 intro h
 simp only [look_c_mp_map_string_int,ls]
 conv=>lhs;whnf
 revert h
 refine ca hc (fun _ h=>ok_legal_checker_must h) ?_;intro y129
 refine br ?_ ?_
 refine ca hc (fun _ h=>ok_legal_checker_must h) ?_;intro y132
 refine ca hc (fun _ h=>ok_legal_checker_nodes_1 h) ?_;intro y134
 refine ca hc (fun _ h=>ok_legal_checker_nodes_1 h) ?_;intro y136
 exact fun h=>cq (hcont10 (s1,IntKind.i64.wrap (s2+1),y136.1,y136.2) (fun _=>0) h)
 intro h
 simp only [look_c_mp_map_string_int,ls]
 conv=>lhs;whnf
 revert h
 refine ca hc (fun _ h=>ok_legal_checker_must h) ?_;intro y138
 refine ca hc (fun _ h=>ok_legal_checker_nodes_1 h) ?_;intro y140
 refine ca hc (fun _ h=>ok_legal_checker_nodes_1 h) ?_;intro y142
 exact fun h=>cq (hcont10 (s1,IntKind.i64.wrap (s2+1),y142.1,y142.2) (fun _=>0) h)
 intro h;cases sj h
 exact kq (hr11 (fun _=>0))
 refine lrc ?_ ?_
 intro v e;subst e;cases sj h;rfl
 intro t a144 e;subst e
 obtain ⟨x145,x146⟩:=t
 dsimp only at h
 conv=>lhs;whnf
 revert h
 intro h;cases sj h
 try simp only [ls]
 exact fq (y:=some (AV.tup [],[Ob.var 52 [iA c_p_Mod,AV.sl 3 (List.map c_api_Var c_p_Locs),AV.sl 4 (List.map c_api_Thread c_p_Threads),AV.sl 3 (List.map c_api_Claim c_p_Claims),AV.mapp 1,AV.mapp 2,iA x145,iA x146],Ob.mp none false (List.map c_mp_map_string_int o1_m),Ob.mp none false (List.map c_mp_map_string_map_string_int o2_m),Ob.mp none false (List.map c_mp_map_string_int o3_m)]))
theorem ok_legal_checker_body_1_1 {n:Nat} ⦃v0_x:S_api_Node⦄ ⦃o1_m:(List ((List UInt8)×Int))⦄ ⦃r:Bool⦄:m_legal_checker_body_1_1 n v0_x o1_m=some r→CN n 49 [AV.agg [iA v0_x.f_Op,iA v0_x.f_N,sA v0_x.f_Name,sA v0_x.f_In,iA v0_x.f_At],AV.ptr 0 0] [Ob.var 49 [AV.mapp 1],Ob.mp none true (List.map c_mp_map_string_int o1_m)]=some (bA r,[Ob.var 49 [AV.mapp 1],Ob.mp none true (List.map c_mp_map_string_int o1_m)]):=by
 intro h;rcases n with _|n;cases h
 rw [m_legal_checker_body_1_1] at h
 refine callN_eq' Try.func49 (by rfl) rfl rfl (Nat.le_of_ble_eq_true rfl) ?_
 intro call hc;conv=>lhs;whnf
 revert h
 intro h
 simp only [look_c_mp_map_string_int,ls]
 conv=>lhs;whnf
 revert h
 intro h;cases sj h
 try simp only [ls]
 exact fq (y:=some (bA (decide (0<(mget o1_m v0_x.f_Name 0))),[Ob.var 49 [AV.mapp 1],Ob.mp none true (List.map c_mp_map_string_int o1_m)]))
theorem ok_legal_checker_nodes_2 {n:Nat} ⦃v1_l:(List S_api_Node)⦄ ⦃c_p_Mod:Int⦄ ⦃c_p_Locs:(List S_api_Var)⦄ ⦃c_p_Threads:(List S_api_Thread)⦄ ⦃c_p_Claims:(List S_api_Claim)⦄ ⦃c_e:Int⦄ ⦃c_at:Int⦄ ⦃o1_m:(List ((List UInt8)×Int))⦄ ⦃o2_m:(List ((List UInt8)×(List ((List UInt8)×Int))))⦄ ⦃o4_m:(List ((List UInt8)×Int))⦄ ⦃r:(Int×Int)⦄:m_legal_checker_nodes_2 n v1_l c_p_Mod c_p_Locs c_p_Threads c_p_Claims c_e c_at o1_m o2_m o4_m=some r→CN n 30 [AV.ptr 0 0,AV.sl 5 (List.map c_api_Node v1_l),AV.func 49 [] [AV.ptr 3 0]] [Ob.var 52 [iA c_p_Mod,AV.sl 3 (List.map c_api_Var c_p_Locs),AV.sl 4 (List.map c_api_Thread c_p_Threads),AV.sl 3 (List.map c_api_Claim c_p_Claims),AV.mapp 1,AV.mapp 2,iA c_e,iA c_at],Ob.mp none false (List.map c_mp_map_string_int o1_m),Ob.mp none false (List.map c_mp_map_string_map_string_int o2_m),Ob.var 49 [AV.mapp 4],Ob.mp none true (List.map c_mp_map_string_int o4_m)]=some (AV.tup [],[Ob.var 52 [iA c_p_Mod,AV.sl 3 (List.map c_api_Var c_p_Locs),AV.sl 4 (List.map c_api_Thread c_p_Threads),AV.sl 3 (List.map c_api_Claim c_p_Claims),AV.mapp 1,AV.mapp 2,iA r.1,iA r.2],Ob.mp none false (List.map c_mp_map_string_int o1_m),Ob.mp none false (List.map c_mp_map_string_map_string_int o2_m),Ob.var 49 [AV.mapp 4],Ob.mp none true (List.map c_mp_map_string_int o4_m)]):=by
 intro h;rcases n with _|n;cases h
 rw [m_legal_checker_nodes_2] at h
 refine callN_eq' Try.func30 (by rfl) rfl rfl (Nat.le_of_ble_eq_true rfl) ?_
 intro call hc;conv=>lhs;whnf
 revert h
 intro h;refine bind_some2 h ?_;clear h;intro o11 ho11 h
 refine lq (σ:=(Int×Int×Int)) (τ:=(Int×Int)) (ν:=(Int×Int)) 0 (fun (s1,s2,s3) a5=>stOf 42 [(0,AV.ptr 0 0),(2,AV.func 49 [] [AV.ptr 3 0]),(8,AV.sl 5 (List.map c_api_Node v1_l)),(9,iA (((v1_l.length:Nat):Int))),(10,iA s1)]) (fun (s1,s2,s3) a5=>[Ob.var 52 [iA c_p_Mod,AV.sl 3 (List.map c_api_Var c_p_Locs),AV.sl 4 (List.map c_api_Thread c_p_Threads),AV.sl 3 (List.map c_api_Claim c_p_Claims),AV.mapp 1,AV.mapp 2,iA s2,iA s3],Ob.mp none false (List.map c_mp_map_string_int o1_m),Ob.mp none false (List.map c_mp_map_string_map_string_int o2_m),Ob.var 49 [AV.mapp 4],Ob.mp none true (List.map c_mp_map_string_int o4_m)]) (fun (x33,x34) a32=>stOf 42 []) (fun (x33,x34) a32=>[Ob.var 52 [iA c_p_Mod,AV.sl 3 (List.map c_api_Var c_p_Locs),AV.sl 4 (List.map c_api_Thread c_p_Threads),AV.sl 3 (List.map c_api_Claim c_p_Claims),AV.mapp 1,AV.mapp 2,iA x33,iA x34],Ob.mp none false (List.map c_mp_map_string_int o1_m),Ob.mp none false (List.map c_mp_map_string_map_string_int o2_m),Ob.var 49 [AV.mapp 4],Ob.mp none true (List.map c_mp_map_string_int o4_m)]) (fun v=>(AV.tup [],[Ob.var 52 [iA c_p_Mod,AV.sl 3 (List.map c_api_Var c_p_Locs),AV.sl 4 (List.map c_api_Thread c_p_Threads),AV.sl 3 (List.map c_api_Claim c_p_Claims),AV.mapp 1,AV.mapp 2,iA v.1,iA v.2],Ob.mp none false (List.map c_mp_map_string_int o1_m),Ob.mp none false (List.map c_mp_map_string_map_string_int o2_m),Ob.var 49 [AV.mapp 4],Ob.mp none true (List.map c_mp_map_string_int o4_m)])) (fun k s=>legal_checker_nodes_2_L0 n v1_l c_p_Mod c_p_Locs c_p_Threads c_p_Claims o1_m o2_m o4_m k s.1 s.2.1 s.2.2) (fun s=>rfl) o11 n (0,c_e,c_at) (fun _=>0) ho11 ?_ ?_
 intro k4 ss a5 K6 cont7 hK8 hcont9 h hr10
 obtain ⟨s1,s2,s3⟩:=ss
 replace h:legal_checker_nodes_2_L0 n v1_l c_p_Mod c_p_Locs c_p_Threads c_p_Claims o1_m o2_m o4_m (k4+1) s1 s2 s3=some o11:=h
 rw [legal_checker_nodes_2_L0] at h
 conv=>lhs;whnf
 revert h
 refine br ?_ ?_
 refine ix ?_;intro x13
 refine br ?_ ?_
 refine ca hc (fun _ h=>ok_legal_checker_must h) ?_;intro y15
 exact fun h=>cq (hcont9 (IntKind.i64.wrap (s1+1),y15.2.1,y15.2.2) (fun _=>0) h)
 refine br ?_ ?_
 refine ca hc (fun _ h=>ok_legal_checker_body_1_1 h) ?_;intro y18
 refine ca hc (fun _ h=>ok_legal_checker_must h) ?_;intro y20
 exact fun h=>cq (hcont9 (IntKind.i64.wrap (s1+1),y20.2.1,y20.2.2) (fun _=>0) h)
 refine br ?_ ?_
 refine ca hc (fun _ h=>ok_legal_checker_body_1_1 h) ?_;intro y23
 refine ca hc (fun _ h=>ok_legal_checker_must h) ?_;intro y25
 exact fun h=>cq (hcont9 (IntKind.i64.wrap (s1+1),y25.2.1,y25.2.2) (fun _=>0) h)
 refine br ?_ ?_
 refine ca hc (fun _ h=>ok_legal_checker_body_1_1 h) ?_;intro y28
 refine ca hc (fun _ h=>ok_legal_checker_must h) ?_;intro y30
 exact fun h=>cq (hcont9 (IntKind.i64.wrap (s1+1),y30.2.1,y30.2.2) (fun _=>0) h)
 exact fun h=>cq (hcont9 (IntKind.i64.wrap (s1+1),s2,s3) (fun _=>0) h)
 intro h;cases sj h
 exact kq (hr10 (fun _=>0))
 refine lrc ?_ ?_
 intro v e;subst e;cases sj h;rfl
 intro t a32 e;subst e
 obtain ⟨x33,x34⟩:=t
 dsimp only at h
 conv=>lhs;whnf
 revert h
 intro h;cases sj h
 try simp only [ls]
 exact fq (y:=some (AV.tup [],[Ob.var 52 [iA c_p_Mod,AV.sl 3 (List.map c_api_Var c_p_Locs),AV.sl 4 (List.map c_api_Thread c_p_Threads),AV.sl 3 (List.map c_api_Claim c_p_Claims),AV.mapp 1,AV.mapp 2,iA x33,iA x34],Ob.mp none false (List.map c_mp_map_string_int o1_m),Ob.mp none false (List.map c_mp_map_string_map_string_int o2_m),Ob.var 49 [AV.mapp 4],Ob.mp none true (List.map c_mp_map_string_int o4_m)]))
theorem ok_legal_checker_body_1 {n:Nat} ⦃v1_t:S_api_Thread⦄ ⦃c_p_Mod:Int⦄ ⦃c_p_Locs:(List S_api_Var)⦄ ⦃c_p_Threads:(List S_api_Thread)⦄ ⦃c_p_Claims:(List S_api_Claim)⦄ ⦃c_e:Int⦄ ⦃c_at:Int⦄ ⦃o1_m:(List ((List UInt8)×Int))⦄ ⦃o2_m:(List ((List UInt8)×(List ((List UInt8)×Int))))⦄ ⦃o3_m:(List ((List UInt8)×Int))⦄ ⦃r:(Int×Int)⦄:m_legal_checker_body_1 n v1_t c_p_Mod c_p_Locs c_p_Threads c_p_Claims c_e c_at o1_m o2_m o3_m=some r→CN n 29 [AV.ptr 0 0,AV.agg [sA v1_t.f_Name,AV.sl 1 (List.map encS v1_t.f_Regs),AV.sl 9 (List.map c_api_Stmt v1_t.f_Body),iA v1_t.f_At],AV.mapp 3] [Ob.var 52 [iA c_p_Mod,AV.sl 3 (List.map c_api_Var c_p_Locs),AV.sl 4 (List.map c_api_Thread c_p_Threads),AV.sl 3 (List.map c_api_Claim c_p_Claims),AV.mapp 1,AV.mapp 2,iA c_e,iA c_at],Ob.mp none false (List.map c_mp_map_string_int o1_m),Ob.mp none false (List.map c_mp_map_string_map_string_int o2_m),Ob.mp none true (List.map c_mp_map_string_int o3_m)]=some (AV.tup [],[Ob.var 52 [iA c_p_Mod,AV.sl 3 (List.map c_api_Var c_p_Locs),AV.sl 4 (List.map c_api_Thread c_p_Threads),AV.sl 3 (List.map c_api_Claim c_p_Claims),AV.mapp 1,AV.mapp 2,iA r.1,iA r.2],Ob.mp none false (List.map c_mp_map_string_int o1_m),Ob.mp none false (List.map c_mp_map_string_map_string_int o2_m),Ob.mp none true (List.map c_mp_map_string_int o3_m)]):=by
 intro h;rcases n with _|n;cases h
 rw [m_legal_checker_body_1] at h
 refine callN_eq' Try.func29 (by rfl) rfl rfl (Nat.le_of_ble_eq_true rfl) ?_
 intro call hc;conv=>lhs;whnf
 revert h
 intro h;refine bind_some2 h ?_;clear h;intro o12 ho12 h
 refine lq (σ:=(Int×Int×Int×Int)) (τ:=(Int×Int)) (ν:=(Int×Int)) 0 (fun (s1,s2,s3,s4) a6=>stOf 82 [(0,AV.ptr 0 0),(5,AV.ptr 5 0),(6,iA s1),(7,AV.func 49 [] [AV.ptr 5 0]),(12,AV.sl 9 (List.map c_api_Stmt v1_t.f_Body)),(13,iA (((v1_t.f_Body.length:Nat):Int))),(14,iA s2)]) (fun (s1,s2,s3,s4) a6=>[Ob.var 52 [iA c_p_Mod,AV.sl 3 (List.map c_api_Var c_p_Locs),AV.sl 4 (List.map c_api_Thread c_p_Threads),AV.sl 3 (List.map c_api_Claim c_p_Claims),AV.mapp 1,AV.mapp 2,iA s3,iA s4],Ob.mp none false (List.map c_mp_map_string_int o1_m),Ob.mp none false (List.map c_mp_map_string_map_string_int o2_m),Ob.mp none true (List.map c_mp_map_string_int o3_m),Ob.var 40 [sA v1_t.f_Name,AV.sl 1 (List.map encS v1_t.f_Regs),AV.sl 9 (List.map c_api_Stmt v1_t.f_Body),iA v1_t.f_At],Ob.var 49 [AV.mapp 3]]) (fun (x145,x146) a144=>stOf 82 []) (fun (x145,x146) a144=>[Ob.var 52 [iA c_p_Mod,AV.sl 3 (List.map c_api_Var c_p_Locs),AV.sl 4 (List.map c_api_Thread c_p_Threads),AV.sl 3 (List.map c_api_Claim c_p_Claims),AV.mapp 1,AV.mapp 2,iA x145,iA x146],Ob.mp none false (List.map c_mp_map_string_int o1_m),Ob.mp none false (List.map c_mp_map_string_map_string_int o2_m),Ob.mp none true (List.map c_mp_map_string_int o3_m),Ob.var 40 [sA v1_t.f_Name,AV.sl 1 (List.map encS v1_t.f_Regs),AV.sl 9 (List.map c_api_Stmt v1_t.f_Body),iA v1_t.f_At],Ob.var 49 [AV.mapp 3]]) (fun v=>(AV.tup [],[Ob.var 52 [iA c_p_Mod,AV.sl 3 (List.map c_api_Var c_p_Locs),AV.sl 4 (List.map c_api_Thread c_p_Threads),AV.sl 3 (List.map c_api_Claim c_p_Claims),AV.mapp 1,AV.mapp 2,iA v.1,iA v.2],Ob.mp none false (List.map c_mp_map_string_int o1_m),Ob.mp none false (List.map c_mp_map_string_map_string_int o2_m),Ob.mp none true (List.map c_mp_map_string_int o3_m)])) (fun k s=>legal_checker_body_1_L0 n v1_t c_p_Mod c_p_Locs c_p_Threads c_p_Claims o1_m o2_m o3_m k s.1 s.2.1 s.2.2.1 s.2.2.2) (fun s=>rfl) o12 n (0,0,c_e,c_at) (fun _=>0) ho12 ?_ ?_
 intro k5 ss a6 K7 cont8 hK9 hcont10 h hr11
 obtain ⟨s1,s2,s3,s4⟩:=ss
 replace h:legal_checker_body_1_L0 n v1_t c_p_Mod c_p_Locs c_p_Threads c_p_Claims o1_m o2_m o3_m (k5+1) s1 s2 s3 s4=some o12:=h
 rw [legal_checker_body_1_L0] at h
 conv=>lhs;whnf
 revert h
 refine br ?_ ?_
 refine ix ?_;intro x14
 refine br ?_ ?_
 refine br ?_ ?_
 refine ca hc (fun _ h=>ok_legal_checker_must h) ?_;intro y17
 refine br ?_ ?_
 refine ca hc (fun _ h=>ok_legal_checker_must h) ?_;intro y20
 refine ca hc (fun _ h=>ok_legal_checker_nodes_2 h) ?_;intro y22
 refine ca hc (fun _ h=>ok_legal_checker_nodes_2 h) ?_;intro y24
 exact fun h=>cq (hcont10 ((if s1<(IntKind.i64.wrap ((IntKind.i64.wrap (s2+1))+x14.f_Body)) then (IntKind.i64.wrap ((IntKind.i64.wrap (s2+1))+x14.f_Body)) else s1),IntKind.i64.wrap (s2+1),y24.1,y24.2) (fun _=>0) h)
 intro h
 simp only [look_c_mp_map_string_int,ls]
 conv=>lhs;whnf
 revert h
 refine ca hc (fun _ h=>ok_legal_checker_must h) ?_;intro y26
 refine ca hc (fun _ h=>ok_legal_checker_nodes_2 h) ?_;intro y28
 refine ca hc (fun _ h=>ok_legal_checker_nodes_2 h) ?_;intro y30
 exact fun h=>cq (hcont10 ((if s1<(IntKind.i64.wrap ((IntKind.i64.wrap (s2+1))+x14.f_Body)) then (IntKind.i64.wrap ((IntKind.i64.wrap (s2+1))+x14.f_Body)) else s1),IntKind.i64.wrap (s2+1),y30.1,y30.2) (fun _=>0) h)
 intro h
 simp only [look_c_mp_map_string_int,ls]
 conv=>lhs;whnf
 revert h
 refine ca hc (fun _ h=>ok_legal_checker_must h) ?_;intro y32
 refine br ?_ ?_
 refine ca hc (fun _ h=>ok_legal_checker_must h) ?_;intro y35
 refine ca hc (fun _ h=>ok_legal_checker_nodes_2 h) ?_;intro y37
 refine ca hc (fun _ h=>ok_legal_checker_nodes_2 h) ?_;intro y39
 exact fun h=>cq (hcont10 ((if s1<(IntKind.i64.wrap ((IntKind.i64.wrap (s2+1))+x14.f_Body)) then (IntKind.i64.wrap ((IntKind.i64.wrap (s2+1))+x14.f_Body)) else s1),IntKind.i64.wrap (s2+1),y39.1,y39.2) (fun _=>0) h)
 intro h
 simp only [look_c_mp_map_string_int,ls]
 conv=>lhs;whnf
 revert h
 refine ca hc (fun _ h=>ok_legal_checker_must h) ?_;intro y41
 refine ca hc (fun _ h=>ok_legal_checker_nodes_2 h) ?_;intro y43
 refine ca hc (fun _ h=>ok_legal_checker_nodes_2 h) ?_;intro y45
 exact fun h=>cq (hcont10 ((if s1<(IntKind.i64.wrap ((IntKind.i64.wrap (s2+1))+x14.f_Body)) then (IntKind.i64.wrap ((IntKind.i64.wrap (s2+1))+x14.f_Body)) else s1),IntKind.i64.wrap (s2+1),y45.1,y45.2) (fun _=>0) h)
 refine br ?_ ?_
 refine br ?_ ?_
 refine ca hc (fun _ h=>ok_legal_checker_must h) ?_;intro y49
 refine br ?_ ?_
 refine ca hc (fun _ h=>ok_legal_checker_must h) ?_;intro y52
 refine ca hc (fun _ h=>ok_legal_checker_nodes_2 h) ?_;intro y54
 refine ca hc (fun _ h=>ok_legal_checker_nodes_2 h) ?_;intro y56
 exact fun h=>cq (hcont10 ((if s1<(IntKind.i64.wrap ((IntKind.i64.wrap (s2+1))+x14.f_Body)) then (IntKind.i64.wrap ((IntKind.i64.wrap (s2+1))+x14.f_Body)) else s1),IntKind.i64.wrap (s2+1),y56.1,y56.2) (fun _=>0) h)
 intro h
 simp only [look_c_mp_map_string_int,ls]
 conv=>lhs;whnf
 revert h
 refine ca hc (fun _ h=>ok_legal_checker_must h) ?_;intro y58
 refine ca hc (fun _ h=>ok_legal_checker_nodes_2 h) ?_;intro y60
 refine ca hc (fun _ h=>ok_legal_checker_nodes_2 h) ?_;intro y62
 exact fun h=>cq (hcont10 ((if s1<(IntKind.i64.wrap ((IntKind.i64.wrap (s2+1))+x14.f_Body)) then (IntKind.i64.wrap ((IntKind.i64.wrap (s2+1))+x14.f_Body)) else s1),IntKind.i64.wrap (s2+1),y62.1,y62.2) (fun _=>0) h)
 intro h
 simp only [look_c_mp_map_string_int,ls]
 conv=>lhs;whnf
 revert h
 refine ca hc (fun _ h=>ok_legal_checker_must h) ?_;intro y64
 refine br ?_ ?_
 refine ca hc (fun _ h=>ok_legal_checker_must h) ?_;intro y67
 refine ca hc (fun _ h=>ok_legal_checker_nodes_2 h) ?_;intro y69
 refine ca hc (fun _ h=>ok_legal_checker_nodes_2 h) ?_;intro y71
 exact fun h=>cq (hcont10 ((if s1<(IntKind.i64.wrap ((IntKind.i64.wrap (s2+1))+x14.f_Body)) then (IntKind.i64.wrap ((IntKind.i64.wrap (s2+1))+x14.f_Body)) else s1),IntKind.i64.wrap (s2+1),y71.1,y71.2) (fun _=>0) h)
 intro h
 simp only [look_c_mp_map_string_int,ls]
 conv=>lhs;whnf
 revert h
 refine ca hc (fun _ h=>ok_legal_checker_must h) ?_;intro y73
 refine ca hc (fun _ h=>ok_legal_checker_nodes_2 h) ?_;intro y75
 refine ca hc (fun _ h=>ok_legal_checker_nodes_2 h) ?_;intro y77
 exact fun h=>cq (hcont10 ((if s1<(IntKind.i64.wrap ((IntKind.i64.wrap (s2+1))+x14.f_Body)) then (IntKind.i64.wrap ((IntKind.i64.wrap (s2+1))+x14.f_Body)) else s1),IntKind.i64.wrap (s2+1),y77.1,y77.2) (fun _=>0) h)
 refine br ?_ ?_
 refine ca hc (fun _ h=>ok_legal_checker_must h) ?_;intro y80
 refine br ?_ ?_
 refine ca hc (fun _ h=>ok_legal_checker_must h) ?_;intro y83
 refine br ?_ ?_
 refine ca hc (fun _ h=>ok_legal_checker_must h) ?_;intro y86
 refine ca hc (fun _ h=>ok_legal_checker_nodes_2 h) ?_;intro y88
 refine ca hc (fun _ h=>ok_legal_checker_nodes_2 h) ?_;intro y90
 exact fun h=>cq (hcont10 (s1,IntKind.i64.wrap (s2+1),y90.1,y90.2) (fun _=>0) h)
 intro h
 simp only [look_c_mp_map_string_int,ls]
 conv=>lhs;whnf
 revert h
 refine ca hc (fun _ h=>ok_legal_checker_must h) ?_;intro y92
 refine ca hc (fun _ h=>ok_legal_checker_nodes_2 h) ?_;intro y94
 refine ca hc (fun _ h=>ok_legal_checker_nodes_2 h) ?_;intro y96
 exact fun h=>cq (hcont10 (s1,IntKind.i64.wrap (s2+1),y96.1,y96.2) (fun _=>0) h)
 intro h
 simp only [look_c_mp_map_string_int,ls]
 conv=>lhs;whnf
 revert h
 refine ca hc (fun _ h=>ok_legal_checker_must h) ?_;intro y98
 refine br ?_ ?_
 refine ca hc (fun _ h=>ok_legal_checker_must h) ?_;intro y101
 refine ca hc (fun _ h=>ok_legal_checker_nodes_2 h) ?_;intro y103
 refine ca hc (fun _ h=>ok_legal_checker_nodes_2 h) ?_;intro y105
 exact fun h=>cq (hcont10 (s1,IntKind.i64.wrap (s2+1),y105.1,y105.2) (fun _=>0) h)
 intro h
 simp only [look_c_mp_map_string_int,ls]
 conv=>lhs;whnf
 revert h
 refine ca hc (fun _ h=>ok_legal_checker_must h) ?_;intro y107
 refine ca hc (fun _ h=>ok_legal_checker_nodes_2 h) ?_;intro y109
 refine ca hc (fun _ h=>ok_legal_checker_nodes_2 h) ?_;intro y111
 exact fun h=>cq (hcont10 (s1,IntKind.i64.wrap (s2+1),y111.1,y111.2) (fun _=>0) h)
 refine br ?_ ?_
 refine ca hc (fun _ h=>ok_legal_checker_must h) ?_;intro y114
 refine br ?_ ?_
 refine ca hc (fun _ h=>ok_legal_checker_must h) ?_;intro y117
 refine ca hc (fun _ h=>ok_legal_checker_nodes_2 h) ?_;intro y119
 refine ca hc (fun _ h=>ok_legal_checker_nodes_2 h) ?_;intro y121
 exact fun h=>cq (hcont10 (s1,IntKind.i64.wrap (s2+1),y121.1,y121.2) (fun _=>0) h)
 intro h
 simp only [look_c_mp_map_string_int,ls]
 conv=>lhs;whnf
 revert h
 refine ca hc (fun _ h=>ok_legal_checker_must h) ?_;intro y123
 refine ca hc (fun _ h=>ok_legal_checker_nodes_2 h) ?_;intro y125
 refine ca hc (fun _ h=>ok_legal_checker_nodes_2 h) ?_;intro y127
 exact fun h=>cq (hcont10 (s1,IntKind.i64.wrap (s2+1),y127.1,y127.2) (fun _=>0) h)
 intro h
 simp only [look_c_mp_map_string_int,ls]
 conv=>lhs;whnf
 revert h
 refine ca hc (fun _ h=>ok_legal_checker_must h) ?_;intro y129
 refine br ?_ ?_
 refine ca hc (fun _ h=>ok_legal_checker_must h) ?_;intro y132
 refine ca hc (fun _ h=>ok_legal_checker_nodes_2 h) ?_;intro y134
 refine ca hc (fun _ h=>ok_legal_checker_nodes_2 h) ?_;intro y136
 exact fun h=>cq (hcont10 (s1,IntKind.i64.wrap (s2+1),y136.1,y136.2) (fun _=>0) h)
 intro h
 simp only [look_c_mp_map_string_int,ls]
 conv=>lhs;whnf
 revert h
 refine ca hc (fun _ h=>ok_legal_checker_must h) ?_;intro y138
 refine ca hc (fun _ h=>ok_legal_checker_nodes_2 h) ?_;intro y140
 refine ca hc (fun _ h=>ok_legal_checker_nodes_2 h) ?_;intro y142
 exact fun h=>cq (hcont10 (s1,IntKind.i64.wrap (s2+1),y142.1,y142.2) (fun _=>0) h)
 intro h;cases sj h
 exact kq (hr11 (fun _=>0))
 refine lrc ?_ ?_
 intro v e;subst e;cases sj h;rfl
 intro t a144 e;subst e
 obtain ⟨x145,x146⟩:=t
 dsimp only at h
 conv=>lhs;whnf
 revert h
 intro h;cases sj h
 try simp only [ls]
 exact fq (y:=some (AV.tup [],[Ob.var 52 [iA c_p_Mod,AV.sl 3 (List.map c_api_Var c_p_Locs),AV.sl 4 (List.map c_api_Thread c_p_Threads),AV.sl 3 (List.map c_api_Claim c_p_Claims),AV.mapp 1,AV.mapp 2,iA x145,iA x146],Ob.mp none false (List.map c_mp_map_string_int o1_m),Ob.mp none false (List.map c_mp_map_string_map_string_int o2_m),Ob.mp none true (List.map c_mp_map_string_int o3_m)]))
theorem ok_legal_checker_thread {n:Nat} ⦃v1_i:Int⦄ ⦃v2_t:S_api_Thread⦄ ⦃c_p_Mod:Int⦄ ⦃c_p_Locs:(List S_api_Var)⦄ ⦃c_p_Threads:(List S_api_Thread)⦄ ⦃c_p_Claims:(List S_api_Claim)⦄ ⦃c_e:Int⦄ ⦃c_at:Int⦄ ⦃o1_m:(List ((List UInt8)×Int))⦄ ⦃o2_m:(List ((List UInt8)×(List ((List UInt8)×Int))))⦄ ⦃r:(Int×Int×(List ((List UInt8)×(List ((List UInt8)×Int)))))⦄:m_legal_checker_thread n v1_i v2_t c_p_Mod c_p_Locs c_p_Threads c_p_Claims c_e c_at o1_m o2_m=some r→CN n 18 [AV.ptr 0 0,iA v1_i,AV.agg [sA v2_t.f_Name,AV.sl 1 (List.map encS v2_t.f_Regs),AV.sl 9 (List.map c_api_Stmt v2_t.f_Body),iA v2_t.f_At]] [Ob.var 52 [iA c_p_Mod,AV.sl 3 (List.map c_api_Var c_p_Locs),AV.sl 4 (List.map c_api_Thread c_p_Threads),AV.sl 3 (List.map c_api_Claim c_p_Claims),AV.mapp 1,AV.mapp 2,iA c_e,iA c_at],Ob.mp none false (List.map c_mp_map_string_int o1_m),Ob.mp none false (List.map c_mp_map_string_map_string_int o2_m)]=some (AV.tup [],[Ob.var 52 [iA c_p_Mod,AV.sl 3 (List.map c_api_Var c_p_Locs),AV.sl 4 (List.map c_api_Thread c_p_Threads),AV.sl 3 (List.map c_api_Claim c_p_Claims),AV.mapp 1,AV.mapp 2,iA r.1,iA r.2.1],Ob.mp none false (List.map c_mp_map_string_int o1_m),Ob.mp none false (List.map c_mp_map_string_map_string_int r.2.2)]):=by
 intro h;rcases n with _|n;cases h
 rw [m_legal_checker_thread] at h
 refine callN_eq' Try.func18 (by rfl) rfl rfl (Nat.le_of_ble_eq_true rfl) ?_
 intro call hc;conv=>lhs;whnf
 revert h
 intro h
 simp only [look_c_mp_map_string_map_string_int,has_c_mp_map_string_map_string_int,ls]
 conv=>lhs;whnf
 revert h
 refine ca hc (fun _ h=>ok_legal_checker_must h) ?_;intro y1
 refine ca hc (fun _ h=>ok_legal_checker_must h) ?_;intro y3
 refine cr hc (fun _ h=>ok_legal_checker_must h) ?_;intro y5
 intro h;refine bind_some2 h ?_;clear h;intro o18 ho18 h
 refine lq (σ:=(Int×Int×Int×(List ((List UInt8)×Int)))) (τ:=(Int×Int×(List ((List UInt8)×Int)))) (ν:=(Int×Int×(List ((List UInt8)×(List ((List UInt8)×Int)))))) 0 (fun (s7,s8,s9,s10) a12=>stOf 84 [(0,AV.ptr 0 0),(5,AV.ptr 3 0),(7,bA ((mhas o2_m v2_t.f_Name))),(8,AV.mapp 4),(43,AV.sl 1 (List.map encS v2_t.f_Regs)),(44,iA (((v2_t.f_Regs.length:Nat):Int))),(45,iA s7)]) (fun (s7,s8,s9,s10) a12=>[Ob.var 52 [iA c_p_Mod,AV.sl 3 (List.map c_api_Var c_p_Locs),AV.sl 4 (List.map c_api_Thread c_p_Threads),AV.sl 3 (List.map c_api_Claim c_p_Claims),AV.mapp 1,AV.mapp 2,iA s8,iA s9],Ob.mp none false (List.map c_mp_map_string_int o1_m),Ob.mp none false (List.map c_mp_map_string_map_string_int o2_m),Ob.var 40 [sA v2_t.f_Name,AV.sl 1 (List.map encS v2_t.f_Regs),AV.sl 9 (List.map c_api_Stmt v2_t.f_Body),iA v2_t.f_At],Ob.mp none false (List.map c_mp_map_string_int s10)]) (fun (x28,x29,x30) a27=>stOf 84 [(0,AV.ptr 0 0),(5,AV.ptr 3 0),(7,bA ((mhas o2_m v2_t.f_Name))),(8,AV.mapp 4)]) (fun (x28,x29,x30) a27=>[Ob.var 52 [iA c_p_Mod,AV.sl 3 (List.map c_api_Var c_p_Locs),AV.sl 4 (List.map c_api_Thread c_p_Threads),AV.sl 3 (List.map c_api_Claim c_p_Claims),AV.mapp 1,AV.mapp 2,iA x28,iA x29],Ob.mp none false (List.map c_mp_map_string_int o1_m),Ob.mp none false (List.map c_mp_map_string_map_string_int o2_m),Ob.var 40 [sA v2_t.f_Name,AV.sl 1 (List.map encS v2_t.f_Regs),AV.sl 9 (List.map c_api_Stmt v2_t.f_Body),iA v2_t.f_At],Ob.mp none false (List.map c_mp_map_string_int x30)]) (fun v=>(AV.tup [],[Ob.var 52 [iA c_p_Mod,AV.sl 3 (List.map c_api_Var c_p_Locs),AV.sl 4 (List.map c_api_Thread c_p_Threads),AV.sl 3 (List.map c_api_Claim c_p_Claims),AV.mapp 1,AV.mapp 2,iA v.1,iA v.2.1],Ob.mp none false (List.map c_mp_map_string_int o1_m),Ob.mp none false (List.map c_mp_map_string_map_string_int v.2.2)])) (fun k s=>legal_checker_thread_L0 n v2_t c_p_Mod c_p_Locs c_p_Threads c_p_Claims o1_m o2_m k s.1 s.2.1 s.2.2.1 s.2.2.2) (fun s=>rfl) o18 n (0,y5.2.1,y5.2.2,([]:(List ((List UInt8)×Int)))) (fun _=>0) ho18 ?_ ?_
 intro k11 ss a12 K13 cont14 hK15 hcont16 h hr17
 obtain ⟨s7,s8,s9,s10⟩:=ss
 replace h:legal_checker_thread_L0 n v2_t c_p_Mod c_p_Locs c_p_Threads c_p_Claims o1_m o2_m (k11+1) s7 s8 s9 s10=some o18:=h
 rw [legal_checker_thread_L0] at h
 conv=>lhs;whnf
 revert h
 refine br ?_ ?_
 refine ix ?_;intro x20
 intro h
 simp only [look_c_mp_map_string_int,ls]
 conv=>lhs;whnf
 revert h
 intro h
 have hs21:mpSet (List.map c_mp_map_string_int s10) (sA x20) (iA (IntKind.i64.wrap ((mget s10 x20 0)+1)))=List.map c_mp_map_string_int (mset s10 x20 (IntKind.i64.wrap ((mget s10 x20 0)+1))):=set_c_mp_map_string_int _ _ _
 try simp only [hs21]
 conv=>lhs;whnf
 revert h
 intro h
 simp only [look_c_mp_map_string_int,ls]
 conv=>lhs;whnf
 revert h
 refine br ?_ ?_
 intro h
 simp only [look_c_mp_map_string_int,ls]
 conv=>lhs;whnf
 revert h
 refine ca hc (fun _ h=>ok_legal_checker_must h) ?_;intro y23
 exact fun h=>cq (hcont16 (IntKind.i64.wrap (s7+1),y23.2.1,y23.2.2,(mset s10 x20 (IntKind.i64.wrap ((mget s10 x20 0)+1)))) (fun _=>0) h)
 refine ca hc (fun _ h=>ok_legal_checker_must h) ?_;intro y25
 exact fun h=>cq (hcont16 (IntKind.i64.wrap (s7+1),y25.2.1,y25.2.2,(mset s10 x20 (IntKind.i64.wrap ((mget s10 x20 0)+1)))) (fun _=>0) h)
 intro h;cases sj h
 exact kq (hr17 (fun _=>0))
 refine lrc ?_ ?_
 intro v e;subst e;cases sj h;rfl
 intro t a27 e;subst e
 obtain ⟨x28,x29,x30⟩:=t
 dsimp only at h
 conv=>lhs;whnf
 revert h
 refine br ?_ ?_
 refine ca hc (fun _ h=>ok_legal_checker_body h) ?_;intro y32
 intro h;cases sj h
 try simp only [ls]
 exact fq (y:=some (AV.tup [],[Ob.var 52 [iA c_p_Mod,AV.sl 3 (List.map c_api_Var c_p_Locs),AV.sl 4 (List.map c_api_Thread c_p_Threads),AV.sl 3 (List.map c_api_Claim c_p_Claims),AV.mapp 1,AV.mapp 2,iA y32.1,iA y32.2],Ob.mp none false (List.map c_mp_map_string_int o1_m),Ob.mp none false (List.map c_mp_map_string_map_string_int o2_m)]))
 intro h
 have hs34:mpSet (List.map c_mp_map_string_map_string_int o2_m) (sA v2_t.f_Name) (AV.mcl none (List.map c_mp_map_string_int x30))=List.map c_mp_map_string_map_string_int (mset o2_m v2_t.f_Name x30):=set_c_mp_map_string_map_string_int _ _ _
 try simp only [hs34]
 conv=>lhs;whnf
 revert h
 refine ca hc (fun _ h=>ok_legal_checker_body_1 h) ?_;intro y35
 intro h;cases sj h
 try simp only [ls]
 exact fq (y:=some (AV.tup [],[Ob.var 52 [iA c_p_Mod,AV.sl 3 (List.map c_api_Var c_p_Locs),AV.sl 4 (List.map c_api_Thread c_p_Threads),AV.sl 3 (List.map c_api_Claim c_p_Claims),AV.mapp 1,AV.mapp 2,iA y35.1,iA y35.2],Ob.mp none false (List.map c_mp_map_string_int o1_m),Ob.mp none false (List.map c_mp_map_string_map_string_int (mset o2_m v2_t.f_Name x30))]))
theorem ok_legal_checker_vars {n:Nat} ⦃c_p_Mod:Int⦄ ⦃c_p_Locs:(List S_api_Var)⦄ ⦃c_p_Threads:(List S_api_Thread)⦄ ⦃c_p_Claims:(List S_api_Claim)⦄ ⦃c_e:Int⦄ ⦃c_at:Int⦄ ⦃o1_m:(List ((List UInt8)×Int))⦄ ⦃o2_m:(List ((List UInt8)×(List ((List UInt8)×Int))))⦄ ⦃r:(Int×Int×(List ((List UInt8)×Int)))⦄:m_legal_checker_vars n c_p_Mod c_p_Locs c_p_Threads c_p_Claims c_e c_at o1_m o2_m=some r→CN n 17 [AV.ptr 0 0] [Ob.var 52 [iA c_p_Mod,AV.sl 3 (List.map c_api_Var c_p_Locs),AV.sl 4 (List.map c_api_Thread c_p_Threads),AV.sl 3 (List.map c_api_Claim c_p_Claims),AV.mapp 1,AV.mapp 2,iA c_e,iA c_at],Ob.mp none false (List.map c_mp_map_string_int o1_m),Ob.mp none false (List.map c_mp_map_string_map_string_int o2_m)]=some (AV.tup [],[Ob.var 52 [iA c_p_Mod,AV.sl 3 (List.map c_api_Var c_p_Locs),AV.sl 4 (List.map c_api_Thread c_p_Threads),AV.sl 3 (List.map c_api_Claim c_p_Claims),AV.mapp 1,AV.mapp 2,iA r.1,iA r.2.1],Ob.mp none false (List.map c_mp_map_string_int r.2.2),Ob.mp none false (List.map c_mp_map_string_map_string_int o2_m)]):=by
 intro h;rcases n with _|n;cases h
 rw [m_legal_checker_vars] at h
 refine callN_eq' Try.func17 (by rfl) rfl rfl (Nat.le_of_ble_eq_true rfl) ?_
 intro call hc;conv=>lhs;whnf
 revert h
 intro h;refine bind_some2 h ?_;clear h;intro o12 ho12 h
 refine lq (σ:=(Int×Int×Int×(List ((List UInt8)×Int)))) (τ:=(Int×Int×(List ((List UInt8)×Int)))) (ν:=(Int×Int×(List ((List UInt8)×Int)))) 0 (fun (s1,s2,s3,s4) a6=>stOf 54 [(0,AV.ptr 0 0),(8,AV.sl 3 (List.map c_api_Var c_p_Locs)),(9,iA (((c_p_Locs.length:Nat):Int))),(10,iA s1)]) (fun (s1,s2,s3,s4) a6=>[Ob.var 52 [iA c_p_Mod,AV.sl 3 (List.map c_api_Var c_p_Locs),AV.sl 4 (List.map c_api_Thread c_p_Threads),AV.sl 3 (List.map c_api_Claim c_p_Claims),AV.mapp 1,AV.mapp 2,iA s2,iA s3],Ob.mp none false (List.map c_mp_map_string_int s4),Ob.mp none false (List.map c_mp_map_string_map_string_int o2_m)]) (fun (x23,x24,x25) a22=>stOf 54 []) (fun (x23,x24,x25) a22=>[Ob.var 52 [iA c_p_Mod,AV.sl 3 (List.map c_api_Var c_p_Locs),AV.sl 4 (List.map c_api_Thread c_p_Threads),AV.sl 3 (List.map c_api_Claim c_p_Claims),AV.mapp 1,AV.mapp 2,iA x23,iA x24],Ob.mp none false (List.map c_mp_map_string_int x25),Ob.mp none false (List.map c_mp_map_string_map_string_int o2_m)]) (fun v=>(AV.tup [],[Ob.var 52 [iA c_p_Mod,AV.sl 3 (List.map c_api_Var c_p_Locs),AV.sl 4 (List.map c_api_Thread c_p_Threads),AV.sl 3 (List.map c_api_Claim c_p_Claims),AV.mapp 1,AV.mapp 2,iA v.1,iA v.2.1],Ob.mp none false (List.map c_mp_map_string_int v.2.2),Ob.mp none false (List.map c_mp_map_string_map_string_int o2_m)])) (fun k s=>legal_checker_vars_L0 n c_p_Mod c_p_Locs c_p_Threads c_p_Claims o2_m k s.1 s.2.1 s.2.2.1 s.2.2.2) (fun s=>rfl) o12 n (0,c_e,c_at,o1_m) (fun _=>0) ho12 ?_ ?_
 intro k5 ss a6 K7 cont8 hK9 hcont10 h hr11
 obtain ⟨s1,s2,s3,s4⟩:=ss
 replace h:legal_checker_vars_L0 n c_p_Mod c_p_Locs c_p_Threads c_p_Claims o2_m (k5+1) s1 s2 s3 s4=some o12:=h
 rw [legal_checker_vars_L0] at h
 conv=>lhs;whnf
 revert h
 refine br ?_ ?_
 refine ix ?_;intro x14
 refine ca hc (fun _ h=>ok_legal_checker_must h) ?_;intro y15
 intro h
 simp only [look_c_mp_map_string_int,ls]
 conv=>lhs;whnf
 revert h
 refine ca hc (fun _ h=>ok_legal_checker_must h) ?_;intro y17
 refine ca hc (fun _ h=>ok_legal_checker_must h) ?_;intro y19
 intro h
 simp only [look_c_mp_map_string_int,ls]
 conv=>lhs;whnf
 revert h
 intro h
 have hs21:mpSet (List.map c_mp_map_string_int s4) (sA x14.f_Name) (iA (IntKind.i64.wrap ((mget s4 x14.f_Name 0)+1)))=List.map c_mp_map_string_int (mset s4 x14.f_Name (IntKind.i64.wrap ((mget s4 x14.f_Name 0)+1))):=set_c_mp_map_string_int _ _ _
 try simp only [hs21]
 conv=>lhs;whnf
 revert h
 exact fun h=>cq (hcont10 (IntKind.i64.wrap (s1+1),y19.2.1,y19.2.2,(mset s4 x14.f_Name (IntKind.i64.wrap ((mget s4 x14.f_Name 0)+1)))) (fun _=>0) h)
 intro h;cases sj h
 exact kq (hr11 (fun _=>0))
 refine lrc ?_ ?_
 intro v e;subst e;cases sj h;rfl
 intro t a22 e;subst e
 obtain ⟨x23,x24,x25⟩:=t
 dsimp only at h
 conv=>lhs;whnf
 revert h
 intro h;cases sj h
 try simp only [ls]
 exact fq (y:=some (AV.tup [],[Ob.var 52 [iA c_p_Mod,AV.sl 3 (List.map c_api_Var c_p_Locs),AV.sl 4 (List.map c_api_Thread c_p_Threads),AV.sl 3 (List.map c_api_Claim c_p_Claims),AV.mapp 1,AV.mapp 2,iA x23,iA x24],Ob.mp none false (List.map c_mp_map_string_int x25),Ob.mp none false (List.map c_mp_map_string_map_string_int o2_m)]))
end Go.Proofs.Ytpnhafdimkmbbaa
end
section
namespace Go.Proofs.Ytpnhafdimkmbbaa
set_option linter.unusedVariables false
set_option linter.unusedSimpArgs false
set_option maxRecDepth 100000
set_option maxHeartbeats 4000000
theorem ok_expr_kids {n:Nat} ⦃v0_op:Int⦄ ⦃r:Int⦄:m_expr_kids n v0_op=some r→CN n 78 [iA v0_op] []=some (iA r,[]):=by
 intro h;rcases n with _|n;cases h
 rw [m_expr_kids] at h
 refine callN_eq' Try.func78 (by rfl) rfl rfl (Nat.le_of_ble_eq_true rfl) ?_
 intro call hc;conv=>lhs;whnf
 revert h
 refine br ?_ ?_
 refine br ?_ ?_
 exact rz
 refine br ?_ ?_
 exact rz
 refine br ?_ ?_
 refine br ?_ ?_
 exact rz
 exact rz
 exact rz
 refine br ?_ ?_
 exact rz
 refine br ?_ ?_
 refine br ?_ ?_
 exact rz
 exact rz
 exact rz
theorem ok_expr_End {n:Nat} ⦃v0_l:(List S_api_Node)⦄ ⦃v1_i:Int⦄ ⦃r:Int⦄:m_expr_End n v0_l v1_i=some r→CN n 61 [AV.sl 5 (List.map c_api_Node v0_l),iA v1_i] []=some (iA r,[]):=by
 intro h;rcases n with _|n;cases h
 rw [m_expr_End] at h
 refine callN_eq' Try.func61 (by rfl) rfl rfl (Nat.le_of_ble_eq_true rfl) ?_
 intro call hc;conv=>lhs;whnf
 revert h
 refine br ?_ ?_
 exact rz
 intro h;refine bind_some2 h ?_;clear h;intro o11 ho11 h
 refine lq (σ:=(Int×Int)) (τ:=Unit) (ν:=Int) 0 (fun (s2,s3) a5=>stOf 31 [(0,AV.sl 5 (List.map c_api_Node v0_l)),(1,iA s2),(5,iA s3)]) (fun (s2,s3) a5=>[]) (fun _ a18=>stOf 31 []) (fun _ a18=>[]) (fun v=>(iA v,[])) (fun k s=>expr_End_L0 n v0_l k s.1 s.2) (fun s=>rfl) o11 n (v1_i,1) (fun _=>0) ho11 ?_ ?_
 intro k4 ss a5 K6 cont7 hK8 hcont9 h hr10
 obtain ⟨s2,s3⟩:=ss
 replace h:expr_End_L0 n v0_l (k4+1) s2 s3=some o11:=h
 rw [expr_End_L0] at h
 conv=>lhs;whnf
 revert h
 refine br ?_ ?_
 refine ix ?_;intro x13
 refine ca hc (fun _ h=>ok_expr_kids h) ?_;intro y14
 refine br ?_ ?_
 intro h;cases sj h
 refine (hK8 _ _).trans ?_
 refine Eq.trans ?_ (Eq.symm (show _=some _ from hr10))
 conv=>lhs;whnf
 exact rq
 refine br ?_ ?_
 intro h;cases sj h
 refine (hK8 _ _).trans ?_
 refine Eq.trans ?_ (Eq.symm (show _=some _ from hr10))
 conv=>lhs;whnf
 exact rq
 exact fun h=>cq (hcont9 (IntKind.i64.wrap (s2+1),IntKind.i64.wrap (s3+(IntKind.i64.wrap (y14 - 1)))) (fun _=>0) h)
 intro h;cases sj h
 exact kq (hr10 (fun _=>0))
 refine lrc ?_ ?_
 intro v e;subst e;cases sj h;rfl
 intro t a18 e;subst e
 dsimp only at h
 conv=>lhs;whnf
 revert h
 exact rz
theorem ok_expr_Names {n:Nat} ⦃v0_l:(List S_api_Node)⦄ ⦃r:(List S_api_Node)⦄:m_expr_Names n v0_l=some r→CN n 46 [AV.sl 5 (List.map c_api_Node v0_l)] []=some (AV.sl 5 (List.map c_api_Node r),[]):=by
 intro h;rcases n with _|n;cases h
 rw [m_expr_Names] at h
 refine callN_eq' Try.func46 (by rfl) rfl rfl (Nat.le_of_ble_eq_true rfl) ?_
 intro call hc;conv=>lhs;whnf
 revert h
 intro h;refine bind_some2 h ?_;clear h;intro o10 ho10 h
 refine lq (σ:=(Int×(List S_api_Node))) (τ:=(List S_api_Node)) (ν:=(List S_api_Node)) 0 (fun (s1,s2) a4=>stOf 24 [(3,AV.row 0 (List.length s2)),(6,AV.sl 5 (List.map c_api_Node v0_l)),(7,iA (((v0_l.length:Nat):Int))),(8,iA s1)]) (fun (s1,s2) a4=>[Ob.row 59 5 (List.map c_api_Node s2)]) (fun x23 a22=>stOf 24 [(3,AV.row 0 (List.length x23))]) (fun x23 a22=>[Ob.row 59 5 (List.map c_api_Node x23)]) (fun v=>(AV.sl 5 (List.map c_api_Node v),[])) (fun k s=>expr_Names_L0 n v0_l k s.1 s.2) (fun s=>rfl) o10 n (0,([]:List S_api_Node)) (fun _=>0) ho10 ?_ ?_
 intro k3 ss a4 K5 cont6 hK7 hcont8 h hr9
 obtain ⟨s1,s2⟩:=ss
 replace h:expr_Names_L0 n v0_l (k3+1) s1 s2=some o10:=h
 rw [expr_Names_L0] at h
 conv=>lhs;whnf
 revert h
 refine br ?_ ?_
 refine ix ?_;intro x12
 refine br ?_ ?_
 refine ar (ap c_api_Node (List.map c_api_Node s2) s2 ([[iA x12.f_Op,iA x12.f_N,sA x12.f_Name,sA x12.f_In,iA x12.f_At]]) ([x12]:List S_api_Node)) ?_
 exact fun h=>cq (hcont8 (IntKind.i64.wrap (s1+1),(s2++([x12]:List S_api_Node))) (fun _=>0) h)
 refine br ?_ ?_
 refine ar (ap c_api_Node (List.map c_api_Node s2) s2 ([[iA x12.f_Op,iA x12.f_N,sA x12.f_Name,sA x12.f_In,iA x12.f_At]]) ([x12]:List S_api_Node)) ?_
 exact fun h=>cq (hcont8 (IntKind.i64.wrap (s1+1),(s2++([x12]:List S_api_Node))) (fun _=>0) h)
 refine br ?_ ?_
 refine ar (ap c_api_Node (List.map c_api_Node s2) s2 ([[iA x12.f_Op,iA x12.f_N,sA x12.f_Name,sA x12.f_In,iA x12.f_At]]) ([x12]:List S_api_Node)) ?_
 exact fun h=>cq (hcont8 (IntKind.i64.wrap (s1+1),(s2++([x12]:List S_api_Node))) (fun _=>0) h)
 exact fun h=>cq (hcont8 (IntKind.i64.wrap (s1+1),s2) (fun _=>0) h)
 intro h;cases sj h
 exact kq (hr9 (fun _=>0))
 refine lrc ?_ ?_
 intro v e;subst e;cases sj h;rfl
 intro x23 a22 e;subst e
 dsimp only at h
 conv=>lhs;whnf
 revert h
 intro h;obtain rfl:=sj h
 try simp only [ls]
 exact fq (y:=some (AV.sl 5 (List.take (List.length x23) (List.map c_api_Node x23)),[]))
theorem ok_expr_depth {n:Nat} ⦃v0_l:(List S_api_Node)⦄ ⦃r:Int⦄:m_expr_depth n v0_l=some r→CN n 63 [AV.sl 5 (List.map c_api_Node v0_l)] []=some (iA r,[]):=by
 intro h;rcases n with _|n;cases h
 rw [m_expr_depth] at h
 refine callN_eq' Try.func63 (by rfl) rfl rfl (Nat.le_of_ble_eq_true rfl) ?_
 intro call hc;conv=>lhs;whnf
 revert h
 intro h;refine bind_some2 h ?_;clear h;intro o11 ho11 h
 refine lq (σ:=(Int×Int×(List Int))) (τ:=(Int×(List Int))) (ν:=Int) 0 (fun (s1,s2,s3) a5=>stOf 50 [(3,AV.stk 0 (a5 0) (List.length s3)),(4,iA s1),(9,AV.sl 5 (List.map c_api_Node v0_l)),(10,iA (((v0_l.length:Nat):Int))),(11,iA s2)]) (fun (s1,s2,s3) a5=>[Ob.stk (a5 0) 3 1 (List.map encI s3)]) (fun (x41,x42) a40=>stOf 50 [(4,iA x41)]) (fun (x41,x42) a40=>[Ob.stk (a40 0) 3 1 (List.map encI x42)]) (fun v=>(iA v,[])) (fun k s=>expr_depth_L0 n v0_l k s.1 s.2.1 s.2.2) (fun s=>rfl) o11 n (0,0,([]:List Int)) (fun j=>(bif Nat.beq j 0 then 0 else 0)) ho11 ?_ ?_
 intro k4 ss a5 K6 cont7 hK8 hcont9 h hr10
 obtain ⟨s1,s2,s3⟩:=ss
 replace h:expr_depth_L0 n v0_l (k4+1) s1 s2 s3=some o11:=h
 rw [expr_depth_L0] at h
 conv=>lhs;whnf
 revert h
 refine br ?_ ?_
 refine ix ?_;intro x13
 refine ca hc (fun _ h=>ok_expr_kids h) ?_;intro y14
 refine br ?_ ?_
 intro h
 refine chk_some2 h ?_;clear h;intro hc19 h
 try simp only [dec_self]
 conv=>lhs;whnf
 first|refine bif_pos (app_row hc19 (by first|rfl|simp only [List.length_map]) (by first|rfl|simp only [List.length_map]) (by first|rfl|simp only [List.length_map,take_map_len]) (by kernel_rfl)) ?_|refine bif_pos (app_row2 hc19 (by first|rfl|simp only [List.length_map]) (by first|rfl|simp only [List.length_map,take_map_len]) (by kernel_rfl)) ?_
 try simp only [lt]
 have hp17:(List.map encI s3:List (List AV))++[[iA y14]]=List.map encI (s3++([y14]:List Int)):=by first|rfl|(rw [List.map_append];rfl)|(rw [List.map_append];done)|(simp only [List.map_append,List.map_cons,List.map_nil,List.nil_append,encI]<;>rfl)
 have hl18:List.length (List.map encI s3:List (List AV))+List.length ([[iA y14]]:List (List AV))=List.length (s3++([y14]:List Int)):=by simp only [List.length_map,List.length_append]<;>rfl
 have hl18_b:List.length s3+List.length ([[iA y14]]:List (List AV))=List.length (s3++([y14]:List Int)):=by simp only [List.length_map,List.length_append]<;>rfl
 have hl18_c:List.length s3+List.length ([y14]:List Int)=List.length (s3++([y14]:List Int)):=by simp only [List.length_map,List.length_append]<;>rfl
 first|simp only [hp17,hl18]|(simp only [List.length_map,take_map_len];simp only [hp17,hl18_b,hl18_c])
 try simp only [ls]
 conv=>lhs;whnf
 revert h
 exact fun h=>cq (hcont9 ((if s1<((s3.length:Nat):Int) then ((s3.length:Nat):Int) else s1),IntKind.i64.wrap (s2+1),(s3++([y14]:List Int))) (fun j=>(bif Nat.beq j 0 then ((a5 0)+1) else 0)) h)
 intro h;refine bind_some2 h ?_;clear h;intro o28 ho28 h
 refine lq (σ:=(List Int)) (τ:=(List Int)) (ν:=Int) 2 (fun s20 a22=>stOf 50 [(3,AV.stk 0 (a22 0) (List.length s20)),(4,iA ((if s1<((s3.length:Nat):Int) then ((s3.length:Nat):Int) else s1))),(9,AV.sl 5 (List.map c_api_Node v0_l)),(10,iA (((v0_l.length:Nat):Int))),(11,iA s2)]) (fun s20 a22=>[Ob.stk (a22 0) 3 1 (List.map encI s20),Ob.var 59 [iA x13.f_Op,iA x13.f_N,sA x13.f_Name,sA x13.f_In,iA x13.f_At]]) (fun x38 a37=>stOf 50 [(3,AV.stk 0 (a37 0) (List.length x38)),(4,iA ((if s1<((s3.length:Nat):Int) then ((s3.length:Nat):Int) else s1))),(9,AV.sl 5 (List.map c_api_Node v0_l)),(10,iA (((v0_l.length:Nat):Int))),(11,iA s2)]) (fun x38 a37=>[Ob.stk (a37 0) 3 1 (List.map encI x38),Ob.var 59 [iA x13.f_Op,iA x13.f_N,sA x13.f_Name,sA x13.f_In,iA x13.f_At]]) (fun v=>(iA v,[])) (fun k s=>expr_depth_L1 n k s) (fun s=>rfl) o28 n s3 (fun j=>(bif Nat.beq j 0 then (a5 0) else 0)) ho28 ?_ ?_
 intro k21 s20 a22 K23 cont24 hK25 hcont26 h hr27
 replace h:expr_depth_L1 n (k21+1) s20=some o28:=h
 rw [expr_depth_L1] at h
 conv=>lhs;whnf
 revert h
 refine br ?_ ?_
 intro h
 refine bind_some2 h ?_;clear h;intro x30 hx30 h
 try simp only [dec_self]
 conv=>lhs;whnf
 try simp only [ls]
 refine bif_pos (by first|exact idx_in hx30|exact idx_in' hx30|exact own_in hx30|exact own_in' hx30|(have q:=idx_in hx30;simp only [List.length_set] at q;exact q)|(have q:=own_in' hx30;simp only [List.length_set,Nat.zero_add] at q ⊢;exact q)) ?_
 conv=>lhs;whnf
 try simp only [idx_nth (f:=encI) hx30,dec_self,ls]
 conv=>lhs;whnf
 revert h
 intro h
 refine bind_some2 h ?_;clear h;intro x31 hx31 h
 try simp only [dec_self]
 conv=>lhs;whnf
 try simp only [ls]
 refine bif_pos (by first|exact idx_in hx31|exact idx_in' hx31|exact own_in hx31|exact own_in' hx31|(have q:=idx_in hx31;simp only [List.length_set] at q;exact q)|(have q:=own_in' hx31;simp only [List.length_set,Nat.zero_add] at q ⊢;exact q)) ?_
 conv=>lhs;whnf
 try simp only [idx_nth (f:=encI) hx31,dec_self,ls]
 conv=>lhs;whnf
 revert h
 intro h
 have hs32:setNth (List.map encI s20) (IntKind.i64.wrap (((s20.length:Nat):Int) - 1)).toNat [iA (IntKind.i64.wrap (x30 - 1))]=List.map encI (List.set s20 (IntKind.i64.wrap (((s20.length:Nat):Int) - 1)).toNat (IntKind.i64.wrap (x30 - 1))):=by rw [setNth_eq,List.map_set];rfl
 have hs32_u:setNth (List.map encI s20) (IntKind.i64.wrap (((s20.length:Nat):Int) - 1)).toNat (updL (encI x31) 0 [iA (IntKind.i64.wrap (x30 - 1))])=List.map encI (List.set s20 (IntKind.i64.wrap (((s20.length:Nat):Int) - 1)).toNat (IntKind.i64.wrap (x30 - 1))):=by rw [setNth_eq,List.map_set];rfl
 try simp only [idx_nth (f:=encI) hx31,dec_self]
 conv=>lhs;whnf
 try simp only [hs32,hs32_u,dec_self]
 conv=>lhs;whnf
 revert h
 intro h
 refine bind_some2 h ?_;clear h;intro x33 hx33 h
 try simp only [dec_self]
 conv=>lhs;whnf
 try simp only [ls]
 refine bif_pos (by first|exact idx_in hx33|exact idx_in' hx33|exact own_in hx33|exact own_in' hx33|(have q:=idx_in hx33;simp only [List.length_set] at q;exact q)|(have q:=own_in' hx33;simp only [List.length_set,Nat.zero_add] at q ⊢;exact q)) ?_
 conv=>lhs;whnf
 try simp only [idx_nth (f:=encI) hx33,dec_self,ls]
 conv=>lhs;whnf
 revert h
 refine br ?_ ?_
 intro h;cases sj h
 exact kq (hr27 (fun j=>(bif Nat.beq j 0 then (a22 0) else 0)))
 intro h
 refine chk_some2 h ?_;clear h;intro hc36 h
 try simp only [dec_self]
 conv=>lhs;whnf
 try simp only [ls]
 first|refine bif_pos hc36 ?_|(refine bif_pos (by have q:=hc36;simp only [List.length_set] at q;exact q) ?_)
 have hs35:List.take ((IntKind.i64.wrap (((s20.length:Nat):Int) - 1)).toNat) (List.map encI (List.set s20 (IntKind.i64.wrap (((s20.length:Nat):Int) - 1)).toNat (IntKind.i64.wrap (x30 - 1))))=List.map encI (List.take ((IntKind.i64.wrap (((s20.length:Nat):Int) - 1)).toNat) (List.set s20 (IntKind.i64.wrap (((s20.length:Nat):Int) - 1)).toNat (IntKind.i64.wrap (x30 - 1)))):=by rw [List.map_take]
 have hs35_l:List.length (List.take ((IntKind.i64.wrap (((s20.length:Nat):Int) - 1)).toNat) (List.set s20 (IntKind.i64.wrap (((s20.length:Nat):Int) - 1)).toNat (IntKind.i64.wrap (x30 - 1))))=(IntKind.i64.wrap (((s20.length:Nat):Int) - 1)).toNat:=by simp only [List.length_take];exact Nat.min_eq_left (cut_le hc36)
 conv=>lhs;whnf
 try simp only [dec_self,hs35]
 conv=>lhs;whnf
 try simp only [hs35]
 have hs35_s:∀ q,AV.stk 0 q ((IntKind.i64.wrap (((s20.length:Nat):Int) - 1)).toNat)=AV.stk 0 q (List.length (List.take ((IntKind.i64.wrap (((s20.length:Nat):Int) - 1)).toNat) (List.set s20 (IntKind.i64.wrap (((s20.length:Nat):Int) - 1)).toNat (IntKind.i64.wrap (x30 - 1))))):=fun q=>by rw [hs35_l]
 try simp only [hs35_s]
 conv=>lhs;whnf
 revert h
 exact fun h=>cq (hcont26 (List.take ((IntKind.i64.wrap (((s20.length:Nat):Int) - 1)).toNat) (List.set s20 (IntKind.i64.wrap (((s20.length:Nat):Int) - 1)).toNat (IntKind.i64.wrap (x30 - 1)))) (fun j=>(bif Nat.beq j 0 then ((a22 0)+1) else 0)) h)
 intro h;cases sj h
 exact kq (hr27 (fun j=>(bif Nat.beq j 0 then (a22 0) else 0)))
 refine lrc ?_ ?_
 intro v e;subst e;cases sj h;exact hr10
 intro x38 a37 e;subst e
 dsimp only at h
 conv=>lhs;whnf
 revert h
 exact fun h=>cq (hcont9 ((if s1<((s3.length:Nat):Int) then ((s3.length:Nat):Int) else s1),IntKind.i64.wrap (s2+1),x38) (fun j=>(bif Nat.beq j 0 then (a37 0) else 0)) h)
 intro h;cases sj h
 exact kq (hr10 (fun j=>(bif Nat.beq j 0 then (a5 0) else 0)))
 refine lrc ?_ ?_
 intro v e;subst e;cases sj h;rfl
 intro t a40 e;subst e
 obtain ⟨x41,x42⟩:=t
 dsimp only at h
 conv=>lhs;whnf
 revert h
 exact rz
theorem ok_expr_fits {n:Nat} ⦃v0_x:S_api_Node⦄ ⦃r:Bool⦄:m_expr_fits n v0_x=some r→CN n 62 [AV.agg [iA v0_x.f_Op,iA v0_x.f_N,sA v0_x.f_Name,sA v0_x.f_In,iA v0_x.f_At]] []=some (bA r,[]):=by
 intro h;rcases n with _|n;cases h
 rw [m_expr_fits] at h
 refine callN_eq' Try.func62 (by rfl) rfl rfl (Nat.le_of_ble_eq_true rfl) ?_
 intro call hc;conv=>lhs;whnf
 revert h
 refine br ?_ ?_
 exact rz
 refine br ?_ ?_
 intro h
 have hf5:flatT Try.prog 59=some (fieldsOf Try.prog 59):=by kernel_rfl
 simp only [hf5,List.length_map,take_map_len]
 conv=>lhs;whnf
 revert h
 refine br ?_ ?_
 refine br ?_ ?_
 exact rz
 exact rz
 exact rz
 refine br ?_ ?_
 refine ca hc (fun _ h=>ok_scan_Name h) ?_;intro y7
 refine br ?_ ?_
 intro h
 have hf13:flatT Try.prog 59=some (fieldsOf Try.prog 59):=by kernel_rfl
 simp only [hf13,List.length_map,take_map_len]
 conv=>lhs;whnf
 revert h
 refine br ?_ ?_
 refine ca hc (fun _ h=>ok_scan_Name h) ?_;intro y11
 exact rz
 exact rz
 exact rz
 refine br ?_ ?_
 intro h
 have hf18:flatT Try.prog 59=some (fieldsOf Try.prog 59):=by kernel_rfl
 simp only [hf18,List.length_map,take_map_len]
 conv=>lhs;whnf
 revert h
 refine br ?_ ?_
 refine ca hc (fun _ h=>ok_scan_Name h) ?_;intro y16
 exact rz
 exact rz
 refine br ?_ ?_
 intro h
 have hf23:flatT Try.prog 59=some (fieldsOf Try.prog 59):=by kernel_rfl
 simp only [hf23,List.length_map,take_map_len]
 conv=>lhs;whnf
 revert h
 refine br ?_ ?_
 refine ca hc (fun _ h=>ok_scan_Name h) ?_;intro y21
 exact rz
 exact rz
 intro h
 have hf24:flatT Try.prog 59=some (fieldsOf Try.prog 59):=by kernel_rfl
 simp only [hf24,List.length_map,take_map_len]
 conv=>lhs;whnf
 revert h
 exact rz
theorem ok_expr_Right {n:Nat} ⦃v0_l:(List S_api_Node)⦄ ⦃r:Bool⦄:m_expr_Right n v0_l=some r→CN n 48 [AV.sl 5 (List.map c_api_Node v0_l)] []=some (bA r,[]):=by
 intro h;rcases n with _|n;cases h
 rw [m_expr_Right] at h
 refine callN_eq' Try.func48 (by rfl) rfl rfl (Nat.le_of_ble_eq_true rfl) ?_
 intro call hc;conv=>lhs;whnf
 revert h
 refine br ?_ ?_
 exact rz
 refine br ?_ ?_
 exact rz
 refine ca hc (fun _ h=>ok_expr_End h) ?_;intro y3
 refine br ?_ ?_
 exact rz
 intro h;refine bind_some2 h ?_;clear h;intro o14 ho14 h
 refine lq (σ:=Int) (τ:=Unit) (ν:=Bool) 0 (fun s6 a8=>stOf 33 [(0,AV.sl 5 (List.map c_api_Node v0_l)),(20,AV.sl 5 (List.map c_api_Node v0_l)),(21,iA (((v0_l.length:Nat):Int))),(22,iA s6)]) (fun s6 a8=>[]) (fun _ a20=>stOf 33 [(0,AV.sl 5 (List.map c_api_Node v0_l))]) (fun _ a20=>[]) (fun v=>(bA v,[])) (fun k s=>expr_Right_L0 n v0_l k s) (fun s=>rfl) o14 n 0 (fun _=>0) ho14 ?_ ?_
 intro k7 s6 a8 K9 cont10 hK11 hcont12 h hr13
 replace h:expr_Right_L0 n v0_l (k7+1) s6=some o14:=h
 rw [expr_Right_L0] at h
 conv=>lhs;whnf
 revert h
 refine br ?_ ?_
 refine ix ?_;intro x16
 refine ca hc (fun _ h=>ok_expr_fits h) ?_;intro y17
 refine br ?_ ?_
 exact fun h=>cq (hcont12 (IntKind.i64.wrap (s6+1)) (fun _=>0) h)
 intro h;cases sj h
 refine (hK11 _ _).trans ?_
 refine Eq.trans ?_ (Eq.symm (show _=some _ from hr13))
 conv=>lhs;whnf
 exact rq
 intro h;cases sj h
 exact kq (hr13 (fun _=>0))
 refine lrc ?_ ?_
 intro v e;subst e;cases sj h;rfl
 intro t a20 e;subst e
 dsimp only at h
 conv=>lhs;whnf
 revert h
 refine ca hc (fun _ h=>ok_expr_depth h) ?_;intro y21
 exact rz
end Go.Proofs.Ytpnhafdimkmbbaa
end
section
namespace Go.Proofs.Ytpnhafdimkmbbaa
set_option linter.unusedVariables false
set_option linter.unusedSimpArgs false
set_option maxRecDepth 100000
set_option maxHeartbeats 4000000
theorem ok_stmt_nests {n:Nat} ⦃v0_kind:Int⦄ ⦃r:Bool⦄:m_stmt_nests n v0_kind=some r→CN n 91 [iA v0_kind] []=some (bA r,[]):=by
 intro h;rcases n with _|n;cases h
 rw [m_stmt_nests] at h
 refine callN_eq' Try.func91 (by rfl) rfl rfl (Nat.le_of_ble_eq_true rfl) ?_
 intro call hc;conv=>lhs;whnf
 revert h
 refine br ?_ ?_
 exact rz
 refine br ?_ ?_
 exact rz
 refine br ?_ ?_
 exact rz
 exact rz
def OK_stmt_depth (n:Nat):Prop:=∀ ⦃v0_l:(List S_api_Stmt)⦄ ⦃v1_from:Int⦄ ⦃v2_to:Int⦄ ⦃r:Int⦄,m_stmt_depth n v0_l v1_from v2_to=some r→CN n 72 [AV.sl 9 (List.map c_api_Stmt v0_l),iA v1_from,iA v2_to] []=some (iA r,[])
def OK_stmt_depth_1 (n:Nat):Prop:=∀ ⦃v0_i:Int⦄ ⦃v1_mid:Int⦄ ⦃v2_end:Int⦄ ⦃o0:(List S_api_Stmt)⦄ ⦃o1:Int⦄ ⦃r:(Bool×Int)⦄,m_stmt_depth_1 n v0_i v1_mid v2_end o0 o1=some r→CN n 90 [iA v0_i,iA v1_mid,iA v2_end,AV.ptr 0 0,AV.ptr 1 0] [Ob.var 38 [AV.sl 9 (List.map c_api_Stmt o0)],Ob.var 3 [iA o1]]=some (bA r.1,[Ob.var 38 [AV.sl 9 (List.map c_api_Stmt o0)],Ob.var 3 [iA r.2]])
def OK_stmt_walk_stmt_depth_1 (n:Nat):Prop:=∀ ⦃v0_l:(List S_api_Stmt)⦄ ⦃v1_from:Int⦄ ⦃v2_to:Int⦄ ⦃o0:(List S_api_Stmt)⦄ ⦃o1:Int⦄ ⦃r:(Bool×Int)⦄,m_stmt_walk_stmt_depth_1 n v0_l v1_from v2_to o0 o1=some r→CN n 89 [AV.sl 9 (List.map c_api_Stmt v0_l),iA v1_from,iA v2_to,AV.func 90 [] [AV.ptr 0 0,AV.ptr 1 0]] [Ob.var 38 [AV.sl 9 (List.map c_api_Stmt o0)],Ob.var 3 [iA o1]]=some (bA r.1,[Ob.var 38 [AV.sl 9 (List.map c_api_Stmt o0)],Ob.var 3 [iA r.2]])
def IH_stmt_depth (n : Nat) : Prop := OK_stmt_depth n ∧ OK_stmt_depth_1 n ∧ OK_stmt_walk_stmt_depth_1 n
theorem st_stmt_depth (n:Nat) (ih:IH_stmt_depth n):OK_stmt_depth (n+1):=by
 intro v0_l v1_from v2_to r h
 rw [m_stmt_depth] at h
 refine callN_eq' Try.func72 (by rfl) rfl rfl (Nat.le_of_ble_eq_true rfl) ?_
 intro call hc;conv=>lhs;whnf
 revert h
 refine ca hc (fun _ h=>ih.2.2 h) ?_;intro y1
 refine br ?_ ?_
 exact rz
 exact rz
theorem st_stmt_depth_1 (n:Nat) (ih:IH_stmt_depth n):OK_stmt_depth_1 (n+1):=by
 intro v0_i v1_mid v2_end o0 o1 r h
 rw [m_stmt_depth_1] at h
 refine callN_eq' Try.func90 (by rfl) rfl rfl (Nat.le_of_ble_eq_true rfl) ?_
 intro call hc;conv=>lhs;whnf
 revert h
 refine ca hc (fun _ h=>ih.1 h) ?_;intro y1
 refine ca hc (fun _ h=>ih.1 h) ?_;intro y3
 refine ix ?_;intro x5
 refine ca hc (fun _ h=>ok_stmt_nests h) ?_;intro y6
 refine br ?_ ?_
 refine br ?_ ?_
 exact rz
 exact rz
 refine br ?_ ?_
 exact rz
 exact rz
theorem st_stmt_walk_stmt_depth_1 (n:Nat) (ih:IH_stmt_depth n):OK_stmt_walk_stmt_depth_1 (n+1):=by
 intro v0_l v1_from v2_to o0 o1 r h
 rw [m_stmt_walk_stmt_depth_1] at h
 refine callN_eq' Try.func89 (by rfl) rfl rfl (Nat.le_of_ble_eq_true rfl) ?_
 intro call hc;conv=>lhs;whnf
 revert h
 intro h;refine bind_some2 h ?_;clear h;intro o10 ho10 h
 refine lq (σ:=(Int×Int)) (τ:=Int) (ν:=(Bool×Int)) 0 (fun (s1,s2) a4=>stOf 63 [(0,AV.sl 9 (List.map c_api_Stmt v0_l)),(1,iA s1),(2,iA v2_to),(3,AV.func 90 [] [AV.ptr 0 0,AV.ptr 1 0])]) (fun (s1,s2) a4=>[Ob.var 38 [AV.sl 9 (List.map c_api_Stmt o0)],Ob.var 3 [iA s2]]) (fun x21 a20=>stOf 63 []) (fun x21 a20=>[Ob.var 38 [AV.sl 9 (List.map c_api_Stmt o0)],Ob.var 3 [iA x21]]) (fun v=>(bA v.1,[Ob.var 38 [AV.sl 9 (List.map c_api_Stmt o0)],Ob.var 3 [iA v.2]])) (fun k s=>stmt_walk_stmt_depth_1_L0 n (m_stmt_depth_1 n) v0_l v2_to o0 k s.1 s.2) (fun s=>rfl) o10 n (v1_from,o1) (fun _=>0) ho10 ?_ ?_
 intro k3 ss a4 K5 cont6 hK7 hcont8 h hr9
 obtain ⟨s1,s2⟩:=ss
 replace h:stmt_walk_stmt_depth_1_L0 n (m_stmt_depth_1 n) v0_l v2_to o0 (k3+1) s1 s2=some o10:=h
 rw [stmt_walk_stmt_depth_1_L0] at h
 conv=>lhs;whnf
 revert h
 refine br ?_ ?_
 refine ix ?_;intro x12
 refine br ?_ ?_
 intro h;cases sj h
 refine (hK7 _ _).trans ?_
 refine Eq.trans ?_ (Eq.symm (show _=some _ from hr9))
 conv=>lhs;whnf
 exact rq
 refine br ?_ ?_
 intro h;cases sj h
 refine (hK7 _ _).trans ?_
 refine Eq.trans ?_ (Eq.symm (show _=some _ from hr9))
 conv=>lhs;whnf
 exact rq
 refine br ?_ ?_
 intro h;cases sj h
 refine (hK7 _ _).trans ?_
 refine Eq.trans ?_ (Eq.symm (show _=some _ from hr9))
 conv=>lhs;whnf
 exact rq
 refine br ?_ ?_
 intro h;cases sj h
 refine (hK7 _ _).trans ?_
 refine Eq.trans ?_ (Eq.symm (show _=some _ from hr9))
 conv=>lhs;whnf
 exact rq
 refine ca hc (fun _ h=>ih.2.1 h) ?_;intro y17
 refine br ?_ ?_
 exact fun h=>cq (hcont8 (IntKind.i64.wrap ((IntKind.i64.wrap ((IntKind.i64.wrap (s1+1))+x12.f_Body))+x12.f_Else),y17.2) (fun _=>0) h)
 intro h;cases sj h
 refine (hK7 _ _).trans ?_
 refine Eq.trans ?_ (Eq.symm (show _=some _ from hr9))
 conv=>lhs;whnf
 exact rq
 intro h;cases sj h
 exact kq (hr9 (fun _=>0))
 refine lrc ?_ ?_
 intro v e;subst e;cases sj h;rfl
 intro x21 a20 e;subst e
 dsimp only at h
 conv=>lhs;whnf
 revert h
 exact rz
theorem all_stmt_depth : ∀ n, IH_stmt_depth n
  | 0 => ⟨by unfold OK_stmt_depth; intros; rename_i h; exact absurd h (by intro h; cases h), by unfold OK_stmt_depth_1; intros; rename_i h; exact absurd h (by intro h; cases h), by unfold OK_stmt_walk_stmt_depth_1; intros; rename_i h; exact absurd h (by intro h; cases h)⟩
  | n + 1 => have ih := all_stmt_depth n
    ⟨st_stmt_depth n ih, st_stmt_depth_1 n ih, st_stmt_walk_stmt_depth_1 n ih⟩
theorem ok_stmt_depth {n : Nat} : OK_stmt_depth n := (all_stmt_depth n).1
theorem ok_stmt_Depth {n:Nat} ⦃v0_l:(List S_api_Stmt)⦄ ⦃r:Int⦄:m_stmt_Depth n v0_l=some r→CN n 59 [AV.sl 9 (List.map c_api_Stmt v0_l)] []=some (iA r,[]):=by
 intro h;rcases n with _|n;cases h
 rw [m_stmt_Depth] at h
 refine callN_eq' Try.func59 (by rfl) rfl rfl (Nat.le_of_ble_eq_true rfl) ?_
 intro call hc;conv=>lhs;whnf
 revert h
 refine cr hc (fun _ h=>ok_stmt_depth h) ?_;intro y1
 exact rz
theorem ok_stmt_kind_has {n:Nat} ⦃v0_k:S_stmt_kind⦄ ⦃v1_part:Int⦄ ⦃r:Bool⦄:m_stmt_kind_has n v0_k v1_part=some r→CN n 75 [AV.agg [sA v0_k.f_word,sA v0_k.f_form,bA v0_k.f_body,bA v0_k.f_more],AV.int .u8 v1_part] []=some (bA r,[]):=by
 intro h;rcases n with _|n;cases h
 rw [m_stmt_kind_has] at h
 refine callN_eq' Try.func75 (by rfl) rfl rfl (Nat.le_of_ble_eq_true rfl) ?_
 intro call hc;conv=>lhs;whnf
 revert h
 intro h;refine bind_some2 h ?_;clear h;intro o9 ho9 h
 refine lq (σ:=Int) (τ:=Unit) (ν:=Bool) 0 (fun s1 a3=>stOf 19 [(1,AV.int .u8 v1_part),(2,AV.ptr 0 0),(8,iA (((v0_k.f_form.length:Nat):Int))),(9,iA s1)]) (fun s1 a3=>[Ob.var 111 [sA v0_k.f_word,sA v0_k.f_form,bA v0_k.f_body,bA v0_k.f_more]]) (fun _ a13=>stOf 19 []) (fun _ a13=>[Ob.var 111 [sA v0_k.f_word,sA v0_k.f_form,bA v0_k.f_body,bA v0_k.f_more]]) (fun v=>(bA v,[])) (fun k s=>stmt_kind_has_L0 n v0_k v1_part k s) (fun s=>rfl) o9 n 0 (fun _=>0) ho9 ?_ ?_
 intro k2 s1 a3 K4 cont5 hK6 hcont7 h hr8
 replace h:stmt_kind_has_L0 n v0_k v1_part (k2+1) s1=some o9:=h
 rw [stmt_kind_has_L0] at h
 conv=>lhs;whnf
 revert h
 refine br ?_ ?_
 refine ixs ?_;intro x11
 refine br ?_ ?_
 intro h;cases sj h
 refine (hK6 _ _).trans ?_
 refine Eq.trans ?_ (Eq.symm (show _=some _ from hr8))
 conv=>lhs;whnf
 exact rq
 exact fun h=>cq (hcont7 (IntKind.i64.wrap (s1+1)) (fun _=>0) h)
 intro h;cases sj h
 exact kq (hr8 (fun _=>0))
 refine lrc ?_ ?_
 intro v e;subst e;cases sj h;rfl
 intro t a13 e;subst e
 dsimp only at h
 conv=>lhs;whnf
 revert h
 exact rz
theorem ok_stmt_fits_1 {n:Nat} ⦃v0_part:Int⦄ ⦃v1_s:(List UInt8)⦄ ⦃o0_word:(List UInt8)⦄ ⦃o0_form:(List UInt8)⦄ ⦃o0_body:Bool⦄ ⦃o0_more:Bool⦄ ⦃r:Bool⦄:m_stmt_fits_1 n v0_part v1_s o0_word o0_form o0_body o0_more=some r→CN n 74 [AV.int .u8 v0_part,sA v1_s,AV.ptr 0 0] [Ob.var 111 [sA o0_word,sA o0_form,bA o0_body,bA o0_more]]=some (bA r,[Ob.var 111 [sA o0_word,sA o0_form,bA o0_body,bA o0_more]]):=by
 intro h;rcases n with _|n;cases h
 rw [m_stmt_fits_1] at h
 refine callN_eq' Try.func74 (by rfl) rfl rfl (Nat.le_of_ble_eq_true rfl) ?_
 intro call hc;conv=>lhs;whnf
 revert h
 refine ca hc (fun y1 h=>(show CN n 75 [AV.agg [sA o0_word,sA o0_form,bA o0_body,bA o0_more],AV.int .u8 v0_part] []=some (bA y1,[]) from ok_stmt_kind_has (r:=y1) h)) ?_;intro y1
 refine br ?_ ?_
 refine ca hc (fun _ h=>ok_scan_Name h) ?_;intro y4
 refine br ?_ ?_
 exact rz
 refine ca hc (fun y7 h=>(show CN n 75 [AV.agg [sA o0_word,sA o0_form,bA o0_body,bA o0_more],AV.int .u8 v0_part] []=some (bA y7,[]) from ok_stmt_kind_has (r:=y7) h)) ?_;intro y7
 refine br ?_ ?_
 exact rz
 exact rz
 refine ca hc (fun y10 h=>(show CN n 75 [AV.agg [sA o0_word,sA o0_form,bA o0_body,bA o0_more],AV.int .u8 v0_part] []=some (bA y10,[]) from ok_stmt_kind_has (r:=y10) h)) ?_;intro y10
 refine br ?_ ?_
 exact rz
 exact rz
theorem ok_stmt_plain {n:Nat} ⦃v0_l:(List S_api_Node)⦄ ⦃r:Bool⦄:m_stmt_plain n v0_l=some r→CN n 77 [AV.sl 5 (List.map c_api_Node v0_l)] []=some (bA r,[]):=by
 intro h;rcases n with _|n;cases h
 rw [m_stmt_plain] at h
 refine callN_eq' Try.func77 (by rfl) rfl rfl (Nat.le_of_ble_eq_true rfl) ?_
 intro call hc;conv=>lhs;whnf
 revert h
 refine ca hc (fun _ h=>ok_expr_Names h) ?_;intro y1
 intro h;refine bind_some2 h ?_;clear h;intro o11 ho11 h
 refine lq (σ:=Int) (τ:=Unit) (ν:=Bool) 0 (fun s3 a5=>stOf 18 [(0,AV.sl 5 (List.map c_api_Node v0_l)),(6,AV.sl 5 (List.map c_api_Node y1)),(7,iA (((y1.length:Nat):Int))),(8,iA s3)]) (fun s3 a5=>[]) (fun _ a15=>stOf 18 [(0,AV.sl 5 (List.map c_api_Node v0_l))]) (fun _ a15=>[]) (fun v=>(bA v,[])) (fun k s=>stmt_plain_L0 n y1 k s) (fun s=>rfl) o11 n 0 (fun _=>0) ho11 ?_ ?_
 intro k4 s3 a5 K6 cont7 hK8 hcont9 h hr10
 replace h:stmt_plain_L0 n y1 (k4+1) s3=some o11:=h
 rw [stmt_plain_L0] at h
 conv=>lhs;whnf
 revert h
 refine br ?_ ?_
 refine ix ?_;intro x13
 refine br ?_ ?_
 intro h;cases sj h
 refine (hK8 _ _).trans ?_
 refine Eq.trans ?_ (Eq.symm (show _=some _ from hr10))
 conv=>lhs;whnf
 exact rq
 exact fun h=>cq (hcont9 (IntKind.i64.wrap (s3+1)) (fun _=>0) h)
 intro h;cases sj h
 exact kq (hr10 (fun _=>0))
 refine lrc ?_ ?_
 intro v e;subst e;cases sj h;rfl
 intro t a15 e;subst e
 dsimp only at h
 conv=>lhs;whnf
 revert h
 refine ca hc (fun _ h=>ok_expr_Right h) ?_;intro y16
 exact rz
theorem ok_stmt_fits_2 {n:Nat} ⦃v0_part:Int⦄ ⦃v1_l:(List S_api_Node)⦄ ⦃o0_word:(List UInt8)⦄ ⦃o0_form:(List UInt8)⦄ ⦃o0_body:Bool⦄ ⦃o0_more:Bool⦄ ⦃r:Bool⦄:m_stmt_fits_2 n v0_part v1_l o0_word o0_form o0_body o0_more=some r→CN n 76 [AV.int .u8 v0_part,AV.sl 5 (List.map c_api_Node v1_l),AV.ptr 0 0] [Ob.var 111 [sA o0_word,sA o0_form,bA o0_body,bA o0_more]]=some (bA r,[Ob.var 111 [sA o0_word,sA o0_form,bA o0_body,bA o0_more]]):=by
 intro h;rcases n with _|n;cases h
 rw [m_stmt_fits_2] at h
 refine callN_eq' Try.func76 (by rfl) rfl rfl (Nat.le_of_ble_eq_true rfl) ?_
 intro call hc;conv=>lhs;whnf
 revert h
 refine ca hc (fun y1 h=>(show CN n 75 [AV.agg [sA o0_word,sA o0_form,bA o0_body,bA o0_more],AV.int .u8 v0_part] []=some (bA y1,[]) from ok_stmt_kind_has (r:=y1) h)) ?_;intro y1
 refine br ?_ ?_
 refine ca hc (fun _ h=>ok_stmt_plain h) ?_;intro y4
 refine br ?_ ?_
 exact rz
 refine ca hc (fun y7 h=>(show CN n 75 [AV.agg [sA o0_word,sA o0_form,bA o0_body,bA o0_more],AV.int .u8 v0_part] []=some (bA y7,[]) from ok_stmt_kind_has (r:=y7) h)) ?_;intro y7
 refine br ?_ ?_
 exact rz
 exact rz
 refine ca hc (fun y10 h=>(show CN n 75 [AV.agg [sA o0_word,sA o0_form,bA o0_body,bA o0_more],AV.int .u8 v0_part] []=some (bA y10,[]) from ok_stmt_kind_has (r:=y10) h)) ?_;intro y10
 refine br ?_ ?_
 exact rz
 exact rz
theorem ok_stmt_kinds {n:Nat} ⦃r:(List S_stmt_kind)⦄:m_stmt_kinds n=some r→CN n 92 [] []=some (AV.sl 4 (List.map c_stmt_kind r),[]):=by
 intro h;rcases n with _|n;cases h
 rw [m_stmt_kinds] at h
 refine callN_eq' Try.func92 (by rfl) rfl rfl (Nat.le_of_ble_eq_true rfl) ?_
 intro call hc;conv=>lhs;whnf
 revert h
 exact rz
theorem ok_stmt_of {n:Nat} ⦃v0_n:Int⦄ ⦃r:(S_stmt_kind×Bool)⦄:m_stmt_of n v0_n=some r→CN n 73 [iA v0_n] []=some (AV.tup [AV.agg [sA r.1.f_word,sA r.1.f_form,bA r.1.f_body,bA r.1.f_more],bA r.2],[]):=by
 intro h;rcases n with _|n;cases h
 rw [m_stmt_of] at h
 refine callN_eq' Try.func73 (by rfl) rfl rfl (Nat.le_of_ble_eq_true rfl) ?_
 intro call hc;conv=>lhs;whnf
 revert h
 refine ca hc (fun _ h=>ok_stmt_kinds h) ?_;intro y1
 refine br ?_ ?_
 exact rz
 refine br ?_ ?_
 exact rz
 refine ix ?_;intro x5
 exact rz
theorem ok_stmt_fits {n:Nat} ⦃v0_x:S_api_Stmt⦄ ⦃r:Bool⦄:m_stmt_fits n v0_x=some r→CN n 60 [AV.agg [iA v0_x.f_Kind,sA v0_x.f_Reg,sA v0_x.f_Loc,AV.sl 5 (List.map c_api_Node v0_x.f_E),AV.sl 5 (List.map c_api_Node v0_x.f_F),bA v0_x.f_Ne,iA v0_x.f_Body,iA v0_x.f_Else,iA v0_x.f_At]] []=some (bA r,[]):=by
 intro h;rcases n with _|n;cases h
 rw [m_stmt_fits] at h
 refine callN_eq' Try.func60 (by rfl) rfl rfl (Nat.le_of_ble_eq_true rfl) ?_
 intro call hc;conv=>lhs;whnf
 revert h
 refine ca hc (fun _ h=>ok_stmt_of h) ?_;intro y1
 refine br ?_ ?_
 refine br ?_ ?_
 exact rz
 refine br ?_ ?_
 refine ca hc (fun _ h=>ok_stmt_kind_has h) ?_;intro y6
 refine br ?_ ?_
 refine ca hc (fun _ h=>ok_stmt_fits_1 h) ?_;intro y9
 refine br ?_ ?_
 refine ca hc (fun _ h=>ok_stmt_fits_1 h) ?_;intro y12
 refine br ?_ ?_
 refine ca hc (fun _ h=>ok_stmt_fits_2 h) ?_;intro y15
 refine br ?_ ?_
 refine ca hc (fun _ h=>ok_stmt_fits_2 h) ?_;intro y18
 refine br ?_ ?_
 refine br ?_ ?_
 refine br ?_ ?_
 exact rz
 exact rz
 refine br ?_ ?_
 refine br ?_ ?_
 exact rz
 exact rz
 exact rz
 exact rz
 exact rz
 exact rz
 exact rz
 exact rz
 refine ca hc (fun _ h=>ok_stmt_fits_1 h) ?_;intro y25
 refine br ?_ ?_
 refine ca hc (fun _ h=>ok_stmt_fits_1 h) ?_;intro y28
 refine br ?_ ?_
 refine ca hc (fun _ h=>ok_stmt_fits_2 h) ?_;intro y31
 refine br ?_ ?_
 refine ca hc (fun _ h=>ok_stmt_fits_2 h) ?_;intro y34
 refine br ?_ ?_
 refine br ?_ ?_
 refine br ?_ ?_
 exact rz
 exact rz
 refine br ?_ ?_
 refine br ?_ ?_
 exact rz
 exact rz
 exact rz
 exact rz
 exact rz
 exact rz
 exact rz
 exact rz
theorem ok_stmt_Right {n:Nat} ⦃v0_l:(List S_api_Stmt)⦄ ⦃r:Bool⦄:m_stmt_Right n v0_l=some r→CN n 44 [AV.sl 9 (List.map c_api_Stmt v0_l)] []=some (bA r,[]):=by
 intro h;rcases n with _|n;cases h
 rw [m_stmt_Right] at h
 refine callN_eq' Try.func44 (by rfl) rfl rfl (Nat.le_of_ble_eq_true rfl) ?_
 intro call hc;conv=>lhs;whnf
 revert h
 refine ca hc (fun _ h=>ok_stmt_Depth h) ?_;intro y1
 refine br ?_ ?_
 exact rz
 refine br ?_ ?_
 exact rz
 refine br ?_ ?_
 exact rz
 intro h;refine bind_some2 h ?_;clear h;intro o14 ho14 h
 refine lq (σ:=Int) (τ:=Unit) (ν:=Bool) 0 (fun s6 a8=>stOf 29 [(19,AV.sl 9 (List.map c_api_Stmt v0_l)),(20,iA (((v0_l.length:Nat):Int))),(21,iA s6)]) (fun s6 a8=>[]) (fun _ a20=>stOf 29 []) (fun _ a20=>[]) (fun v=>(bA v,[])) (fun k s=>stmt_Right_L0 n v0_l k s) (fun s=>rfl) o14 n 0 (fun _=>0) ho14 ?_ ?_
 intro k7 s6 a8 K9 cont10 hK11 hcont12 h hr13
 replace h:stmt_Right_L0 n v0_l (k7+1) s6=some o14:=h
 rw [stmt_Right_L0] at h
 conv=>lhs;whnf
 revert h
 refine br ?_ ?_
 refine ix ?_;intro x16
 refine ca hc (fun _ h=>ok_stmt_fits h) ?_;intro y17
 refine br ?_ ?_
 exact fun h=>cq (hcont12 (IntKind.i64.wrap (s6+1)) (fun _=>0) h)
 intro h;cases sj h
 refine (hK11 _ _).trans ?_
 refine Eq.trans ?_ (Eq.symm (show _=some _ from hr13))
 conv=>lhs;whnf
 exact rq
 intro h;cases sj h
 exact kq (hr13 (fun _=>0))
 refine lrc ?_ ?_
 intro v e;subst e;cases sj h;rfl
 intro t a20 e;subst e
 dsimp only at h
 conv=>lhs;whnf
 revert h
 exact rz
end Go.Proofs.Ytpnhafdimkmbbaa
end
section
namespace Go.Proofs.Ytpnhafdimkmbbaa
set_option linter.unusedVariables false
set_option linter.unusedSimpArgs false
set_option maxRecDepth 100000
set_option maxHeartbeats 4000000
theorem ok_prog_number {n:Nat} ⦃v0_n:Int⦄ ⦃r:Bool⦄:m_prog_number n v0_n=some r→CN n 24 [iA v0_n] []=some (bA r,[]):=by
 intro h;rcases n with _|n;cases h
 rw [m_prog_number] at h
 refine callN_eq' Try.func24 (by rfl) rfl rfl (Nat.le_of_ble_eq_true rfl) ?_
 intro call hc;conv=>lhs;whnf
 revert h
 refine br ?_ ?_
 exact rz
 exact rz
theorem ok_prog_Right_1 {n:Nat} ⦃v0_i:Int⦄ ⦃o0_Mod:Int⦄ ⦃o0_Locs:(List S_api_Var)⦄ ⦃o0_Threads:(List S_api_Thread)⦄ ⦃o0_Claims:(List S_api_Claim)⦄ ⦃r:Bool⦄:m_prog_Right_1 n v0_i o0_Mod o0_Locs o0_Threads o0_Claims=some r→CN n 22 [iA v0_i,AV.ptr 0 0] [Ob.var 26 [iA o0_Mod,AV.sl 3 (List.map c_api_Var o0_Locs),AV.sl 4 (List.map c_api_Thread o0_Threads),AV.sl 3 (List.map c_api_Claim o0_Claims)]]=some (bA r,[Ob.var 26 [iA o0_Mod,AV.sl 3 (List.map c_api_Var o0_Locs),AV.sl 4 (List.map c_api_Thread o0_Threads),AV.sl 3 (List.map c_api_Claim o0_Claims)]]):=by
 intro h;rcases n with _|n;cases h
 rw [m_prog_Right_1] at h
 refine callN_eq' Try.func22 (by rfl) rfl rfl (Nat.le_of_ble_eq_true rfl) ?_
 intro call hc;conv=>lhs;whnf
 revert h
 refine ix ?_;intro x1
 refine ca hc (fun _ h=>ok_scan_Name h) ?_;intro y2
 refine br ?_ ?_
 refine ca hc (fun _ h=>ok_prog_number h) ?_;intro y5
 refine br ?_ ?_
 exact rz
 exact rz
 exact rz
theorem ok_prog_all {n:Nat} ⦃v0_n:Int⦄ ⦃o0_Mod:Int⦄ ⦃o0_Locs:(List S_api_Var)⦄ ⦃o0_Threads:(List S_api_Thread)⦄ ⦃o0_Claims:(List S_api_Claim)⦄ ⦃r:Bool⦄:m_prog_all n v0_n o0_Mod o0_Locs o0_Threads o0_Claims=some r→CN n 21 [iA v0_n,AV.func 22 [] [AV.ptr 0 0]] [Ob.var 26 [iA o0_Mod,AV.sl 3 (List.map c_api_Var o0_Locs),AV.sl 4 (List.map c_api_Thread o0_Threads),AV.sl 3 (List.map c_api_Claim o0_Claims)]]=some (bA r,[Ob.var 26 [iA o0_Mod,AV.sl 3 (List.map c_api_Var o0_Locs),AV.sl 4 (List.map c_api_Thread o0_Threads),AV.sl 3 (List.map c_api_Claim o0_Claims)]]):=by
 intro h;rcases n with _|n;cases h
 rw [m_prog_all] at h
 refine callN_eq' Try.func21 (by rfl) rfl rfl (Nat.le_of_ble_eq_true rfl) ?_
 intro call hc;conv=>lhs;whnf
 revert h
 intro h;refine bind_some2 h ?_;clear h;intro o9 ho9 h
 refine lq (σ:=Int) (τ:=Unit) (ν:=Bool) 0 (fun s1 a3=>stOf 15 [(1,AV.func 22 [] [AV.ptr 0 0]),(6,iA v0_n),(7,iA s1)]) (fun s1 a3=>[Ob.var 26 [iA o0_Mod,AV.sl 3 (List.map c_api_Var o0_Locs),AV.sl 4 (List.map c_api_Thread o0_Threads),AV.sl 3 (List.map c_api_Claim o0_Claims)]]) (fun _ a14=>stOf 15 []) (fun _ a14=>[Ob.var 26 [iA o0_Mod,AV.sl 3 (List.map c_api_Var o0_Locs),AV.sl 4 (List.map c_api_Thread o0_Threads),AV.sl 3 (List.map c_api_Claim o0_Claims)]]) (fun v=>(bA v,[Ob.var 26 [iA o0_Mod,AV.sl 3 (List.map c_api_Var o0_Locs),AV.sl 4 (List.map c_api_Thread o0_Threads),AV.sl 3 (List.map c_api_Claim o0_Claims)]])) (fun k s=>prog_all_L0 n v0_n o0_Mod o0_Locs o0_Threads o0_Claims k s) (fun s=>rfl) o9 n 0 (fun _=>0) ho9 ?_ ?_
 intro k2 s1 a3 K4 cont5 hK6 hcont7 h hr8
 replace h:prog_all_L0 n v0_n o0_Mod o0_Locs o0_Threads o0_Claims (k2+1) s1=some o9:=h
 rw [prog_all_L0] at h
 conv=>lhs;whnf
 revert h
 refine br ?_ ?_
 refine ca hc (fun _ h=>ok_prog_Right_1 h) ?_;intro y11
 refine br ?_ ?_
 exact fun h=>cq (hcont7 (IntKind.i64.wrap (s1+1)) (fun _=>0) h)
 intro h;cases sj h
 refine (hK6 _ _).trans ?_
 refine Eq.trans ?_ (Eq.symm (show _=some _ from hr8))
 conv=>lhs;whnf
 exact rq
 intro h;cases sj h
 exact kq (hr8 (fun _=>0))
 refine lrc ?_ ?_
 intro v e;subst e;cases sj h;rfl
 intro t a14 e;subst e
 dsimp only at h
 conv=>lhs;whnf
 revert h
 exact rz
theorem ok_prog_thread_1 {n:Nat} ⦃v0_i:Int⦄ ⦃o0_Name:(List UInt8)⦄ ⦃o0_Regs:(List (List UInt8))⦄ ⦃o0_Body:(List S_api_Stmt)⦄ ⦃o0_At:Int⦄ ⦃r:Bool⦄:m_prog_thread_1 n v0_i o0_Name o0_Regs o0_Body o0_At=some r→CN n 45 [iA v0_i,AV.ptr 0 0] [Ob.var 40 [sA o0_Name,AV.sl 1 (List.map encS o0_Regs),AV.sl 9 (List.map c_api_Stmt o0_Body),iA o0_At]]=some (bA r,[Ob.var 40 [sA o0_Name,AV.sl 1 (List.map encS o0_Regs),AV.sl 9 (List.map c_api_Stmt o0_Body),iA o0_At]]):=by
 intro h;rcases n with _|n;cases h
 rw [m_prog_thread_1] at h
 refine callN_eq' Try.func45 (by rfl) rfl rfl (Nat.le_of_ble_eq_true rfl) ?_
 intro call hc;conv=>lhs;whnf
 revert h
 refine ix ?_;intro x1
 refine ca hc (fun _ h=>ok_scan_Name h) ?_;intro y2
 exact rz
theorem ok_prog_all_3 {n:Nat} ⦃v0_n:Int⦄ ⦃o0_Name:(List UInt8)⦄ ⦃o0_Regs:(List (List UInt8))⦄ ⦃o0_Body:(List S_api_Stmt)⦄ ⦃o0_At:Int⦄ ⦃r:Bool⦄:m_prog_all_3 n v0_n o0_Name o0_Regs o0_Body o0_At=some r→CN n 21 [iA v0_n,AV.func 45 [] [AV.ptr 0 0]] [Ob.var 40 [sA o0_Name,AV.sl 1 (List.map encS o0_Regs),AV.sl 9 (List.map c_api_Stmt o0_Body),iA o0_At]]=some (bA r,[Ob.var 40 [sA o0_Name,AV.sl 1 (List.map encS o0_Regs),AV.sl 9 (List.map c_api_Stmt o0_Body),iA o0_At]]):=by
 intro h;rcases n with _|n;cases h
 rw [m_prog_all_3] at h
 refine callN_eq' Try.func21 (by rfl) rfl rfl (Nat.le_of_ble_eq_true rfl) ?_
 intro call hc;conv=>lhs;whnf
 revert h
 intro h;refine bind_some2 h ?_;clear h;intro o9 ho9 h
 refine lq (σ:=Int) (τ:=Unit) (ν:=Bool) 0 (fun s1 a3=>stOf 15 [(1,AV.func 45 [] [AV.ptr 0 0]),(6,iA v0_n),(7,iA s1)]) (fun s1 a3=>[Ob.var 40 [sA o0_Name,AV.sl 1 (List.map encS o0_Regs),AV.sl 9 (List.map c_api_Stmt o0_Body),iA o0_At]]) (fun _ a14=>stOf 15 []) (fun _ a14=>[Ob.var 40 [sA o0_Name,AV.sl 1 (List.map encS o0_Regs),AV.sl 9 (List.map c_api_Stmt o0_Body),iA o0_At]]) (fun v=>(bA v,[Ob.var 40 [sA o0_Name,AV.sl 1 (List.map encS o0_Regs),AV.sl 9 (List.map c_api_Stmt o0_Body),iA o0_At]])) (fun k s=>prog_all_3_L0 n v0_n o0_Name o0_Regs o0_Body o0_At k s) (fun s=>rfl) o9 n 0 (fun _=>0) ho9 ?_ ?_
 intro k2 s1 a3 K4 cont5 hK6 hcont7 h hr8
 replace h:prog_all_3_L0 n v0_n o0_Name o0_Regs o0_Body o0_At (k2+1) s1=some o9:=h
 rw [prog_all_3_L0] at h
 conv=>lhs;whnf
 revert h
 refine br ?_ ?_
 refine ca hc (fun _ h=>ok_prog_thread_1 h) ?_;intro y11
 refine br ?_ ?_
 exact fun h=>cq (hcont7 (IntKind.i64.wrap (s1+1)) (fun _=>0) h)
 intro h;cases sj h
 refine (hK6 _ _).trans ?_
 refine Eq.trans ?_ (Eq.symm (show _=some _ from hr8))
 conv=>lhs;whnf
 exact rq
 intro h;cases sj h
 exact kq (hr8 (fun _=>0))
 refine lrc ?_ ?_
 intro v e;subst e;cases sj h;rfl
 intro t a14 e;subst e
 dsimp only at h
 conv=>lhs;whnf
 revert h
 exact rz
theorem ok_prog_thread {n:Nat} ⦃v0_t:S_api_Thread⦄ ⦃r:Bool⦄:m_prog_thread n v0_t=some r→CN n 26 [AV.agg [sA v0_t.f_Name,AV.sl 1 (List.map encS v0_t.f_Regs),AV.sl 9 (List.map c_api_Stmt v0_t.f_Body),iA v0_t.f_At]] []=some (bA r,[]):=by
 intro h;rcases n with _|n;cases h
 rw [m_prog_thread] at h
 refine callN_eq' Try.func26 (by rfl) rfl rfl (Nat.le_of_ble_eq_true rfl) ?_
 intro call hc;conv=>lhs;whnf
 revert h
 refine ca hc (fun _ h=>ok_scan_Name h) ?_;intro y1
 refine br ?_ ?_
 refine br ?_ ?_
 refine ca hc (fun _ h=>ok_stmt_Right h) ?_;intro y5
 refine br ?_ ?_
 refine cr hc (fun _ h=>ok_prog_all_3 h) ?_;intro y8
 exact rz
 exact rz
 exact rz
 exact rz
theorem ok_prog_Right_2 {n:Nat} ⦃v0_i:Int⦄ ⦃o0_Mod:Int⦄ ⦃o0_Locs:(List S_api_Var)⦄ ⦃o0_Threads:(List S_api_Thread)⦄ ⦃o0_Claims:(List S_api_Claim)⦄ ⦃r:Bool⦄:m_prog_Right_2 n v0_i o0_Mod o0_Locs o0_Threads o0_Claims=some r→CN n 25 [iA v0_i,AV.ptr 0 0] [Ob.var 26 [iA o0_Mod,AV.sl 3 (List.map c_api_Var o0_Locs),AV.sl 4 (List.map c_api_Thread o0_Threads),AV.sl 3 (List.map c_api_Claim o0_Claims)]]=some (bA r,[Ob.var 26 [iA o0_Mod,AV.sl 3 (List.map c_api_Var o0_Locs),AV.sl 4 (List.map c_api_Thread o0_Threads),AV.sl 3 (List.map c_api_Claim o0_Claims)]]):=by
 intro h;rcases n with _|n;cases h
 rw [m_prog_Right_2] at h
 refine callN_eq' Try.func25 (by rfl) rfl rfl (Nat.le_of_ble_eq_true rfl) ?_
 intro call hc;conv=>lhs;whnf
 revert h
 refine ix ?_;intro x1
 refine ca hc (fun _ h=>ok_prog_thread h) ?_;intro y2
 exact rz
theorem ok_prog_all_1 {n:Nat} ⦃v0_n:Int⦄ ⦃o0_Mod:Int⦄ ⦃o0_Locs:(List S_api_Var)⦄ ⦃o0_Threads:(List S_api_Thread)⦄ ⦃o0_Claims:(List S_api_Claim)⦄ ⦃r:Bool⦄:m_prog_all_1 n v0_n o0_Mod o0_Locs o0_Threads o0_Claims=some r→CN n 21 [iA v0_n,AV.func 25 [] [AV.ptr 0 0]] [Ob.var 26 [iA o0_Mod,AV.sl 3 (List.map c_api_Var o0_Locs),AV.sl 4 (List.map c_api_Thread o0_Threads),AV.sl 3 (List.map c_api_Claim o0_Claims)]]=some (bA r,[Ob.var 26 [iA o0_Mod,AV.sl 3 (List.map c_api_Var o0_Locs),AV.sl 4 (List.map c_api_Thread o0_Threads),AV.sl 3 (List.map c_api_Claim o0_Claims)]]):=by
 intro h;rcases n with _|n;cases h
 rw [m_prog_all_1] at h
 refine callN_eq' Try.func21 (by rfl) rfl rfl (Nat.le_of_ble_eq_true rfl) ?_
 intro call hc;conv=>lhs;whnf
 revert h
 intro h;refine bind_some2 h ?_;clear h;intro o9 ho9 h
 refine lq (σ:=Int) (τ:=Unit) (ν:=Bool) 0 (fun s1 a3=>stOf 15 [(1,AV.func 25 [] [AV.ptr 0 0]),(6,iA v0_n),(7,iA s1)]) (fun s1 a3=>[Ob.var 26 [iA o0_Mod,AV.sl 3 (List.map c_api_Var o0_Locs),AV.sl 4 (List.map c_api_Thread o0_Threads),AV.sl 3 (List.map c_api_Claim o0_Claims)]]) (fun _ a14=>stOf 15 []) (fun _ a14=>[Ob.var 26 [iA o0_Mod,AV.sl 3 (List.map c_api_Var o0_Locs),AV.sl 4 (List.map c_api_Thread o0_Threads),AV.sl 3 (List.map c_api_Claim o0_Claims)]]) (fun v=>(bA v,[Ob.var 26 [iA o0_Mod,AV.sl 3 (List.map c_api_Var o0_Locs),AV.sl 4 (List.map c_api_Thread o0_Threads),AV.sl 3 (List.map c_api_Claim o0_Claims)]])) (fun k s=>prog_all_1_L0 n v0_n o0_Mod o0_Locs o0_Threads o0_Claims k s) (fun s=>rfl) o9 n 0 (fun _=>0) ho9 ?_ ?_
 intro k2 s1 a3 K4 cont5 hK6 hcont7 h hr8
 replace h:prog_all_1_L0 n v0_n o0_Mod o0_Locs o0_Threads o0_Claims (k2+1) s1=some o9:=h
 rw [prog_all_1_L0] at h
 conv=>lhs;whnf
 revert h
 refine br ?_ ?_
 refine ca hc (fun _ h=>ok_prog_Right_2 h) ?_;intro y11
 refine br ?_ ?_
 exact fun h=>cq (hcont7 (IntKind.i64.wrap (s1+1)) (fun _=>0) h)
 intro h;cases sj h
 refine (hK6 _ _).trans ?_
 refine Eq.trans ?_ (Eq.symm (show _=some _ from hr8))
 conv=>lhs;whnf
 exact rq
 intro h;cases sj h
 exact kq (hr8 (fun _=>0))
 refine lrc ?_ ?_
 intro v e;subst e;cases sj h;rfl
 intro t a14 e;subst e
 dsimp only at h
 conv=>lhs;whnf
 revert h
 exact rz
theorem ok_prog_word {n:Nat} ⦃v0_kind:Int⦄ ⦃r:(List UInt8)⦄:m_prog_word n v0_kind=some r→CN n 47 [iA v0_kind] []=some (sA r,[]):=by
 intro h;rcases n with _|n;cases h
 rw [m_prog_word] at h
 refine callN_eq' Try.func47 (by rfl) rfl rfl (Nat.le_of_ble_eq_true rfl) ?_
 intro call hc;conv=>lhs;whnf
 revert h
 refine br ?_ ?_
 exact rz
 refine br ?_ ?_
 exact rz
 refine br ?_ ?_
 exact rz
 exact rz
theorem ok_prog_claim {n:Nat} ⦃v0_c:S_api_Claim⦄ ⦃r:Bool⦄:m_prog_claim n v0_c=some r→CN n 28 [AV.agg [iA v0_c.f_Kind,AV.sl 5 (List.map c_api_Node v0_c.f_E),iA v0_c.f_At]] []=some (bA r,[]):=by
 intro h;rcases n with _|n;cases h
 rw [m_prog_claim] at h
 refine callN_eq' Try.func28 (by rfl) rfl rfl (Nat.le_of_ble_eq_true rfl) ?_
 intro call hc;conv=>lhs;whnf
 revert h
 refine ca hc (fun _ h=>ok_expr_Names h) ?_;intro y1
 intro h;refine bind_some2 h ?_;clear h;intro o11 ho11 h
 refine lq (σ:=Int) (τ:=Unit) (ν:=Bool) 0 (fun s3 a5=>stOf 31 [(1,AV.ptr 0 0),(7,AV.sl 5 (List.map c_api_Node y1)),(8,iA (((y1.length:Nat):Int))),(9,iA s3)]) (fun s3 a5=>[Ob.var 46 [iA v0_c.f_Kind,AV.sl 5 (List.map c_api_Node v0_c.f_E),iA v0_c.f_At]]) (fun _ a15=>stOf 31 [(1,AV.ptr 0 0)]) (fun _ a15=>[Ob.var 46 [iA v0_c.f_Kind,AV.sl 5 (List.map c_api_Node v0_c.f_E),iA v0_c.f_At]]) (fun v=>(bA v,[])) (fun k s=>prog_claim_L0 n y1 k s) (fun s=>rfl) o11 n 0 (fun _=>0) ho11 ?_ ?_
 intro k4 s3 a5 K6 cont7 hK8 hcont9 h hr10
 replace h:prog_claim_L0 n y1 (k4+1) s3=some o11:=h
 rw [prog_claim_L0] at h
 conv=>lhs;whnf
 revert h
 refine br ?_ ?_
 refine ix ?_;intro x13
 refine br ?_ ?_
 intro h;cases sj h
 refine (hK8 _ _).trans ?_
 refine Eq.trans ?_ (Eq.symm (show _=some _ from hr10))
 conv=>lhs;whnf
 exact rq
 exact fun h=>cq (hcont9 (IntKind.i64.wrap (s3+1)) (fun _=>0) h)
 intro h;cases sj h
 exact kq (hr10 (fun _=>0))
 refine lrc ?_ ?_
 intro v e;subst e;cases sj h;rfl
 intro t a15 e;subst e
 dsimp only at h
 conv=>lhs;whnf
 revert h
 refine ca hc (fun _ h=>ok_prog_word h) ?_;intro y16
 refine br ?_ ?_
 exact rz
 refine ca hc (fun _ h=>ok_expr_Right h) ?_;intro y19
 refine br ?_ ?_
 exact rz
 exact rz
theorem ok_prog_Right_3 {n:Nat} ⦃v0_i:Int⦄ ⦃o0_Mod:Int⦄ ⦃o0_Locs:(List S_api_Var)⦄ ⦃o0_Threads:(List S_api_Thread)⦄ ⦃o0_Claims:(List S_api_Claim)⦄ ⦃r:Bool⦄:m_prog_Right_3 n v0_i o0_Mod o0_Locs o0_Threads o0_Claims=some r→CN n 27 [iA v0_i,AV.ptr 0 0] [Ob.var 26 [iA o0_Mod,AV.sl 3 (List.map c_api_Var o0_Locs),AV.sl 4 (List.map c_api_Thread o0_Threads),AV.sl 3 (List.map c_api_Claim o0_Claims)]]=some (bA r,[Ob.var 26 [iA o0_Mod,AV.sl 3 (List.map c_api_Var o0_Locs),AV.sl 4 (List.map c_api_Thread o0_Threads),AV.sl 3 (List.map c_api_Claim o0_Claims)]]):=by
 intro h;rcases n with _|n;cases h
 rw [m_prog_Right_3] at h
 refine callN_eq' Try.func27 (by rfl) rfl rfl (Nat.le_of_ble_eq_true rfl) ?_
 intro call hc;conv=>lhs;whnf
 revert h
 refine ix ?_;intro x1
 refine ca hc (fun _ h=>ok_prog_claim h) ?_;intro y2
 exact rz
theorem ok_prog_all_2 {n:Nat} ⦃v0_n:Int⦄ ⦃o0_Mod:Int⦄ ⦃o0_Locs:(List S_api_Var)⦄ ⦃o0_Threads:(List S_api_Thread)⦄ ⦃o0_Claims:(List S_api_Claim)⦄ ⦃r:Bool⦄:m_prog_all_2 n v0_n o0_Mod o0_Locs o0_Threads o0_Claims=some r→CN n 21 [iA v0_n,AV.func 27 [] [AV.ptr 0 0]] [Ob.var 26 [iA o0_Mod,AV.sl 3 (List.map c_api_Var o0_Locs),AV.sl 4 (List.map c_api_Thread o0_Threads),AV.sl 3 (List.map c_api_Claim o0_Claims)]]=some (bA r,[Ob.var 26 [iA o0_Mod,AV.sl 3 (List.map c_api_Var o0_Locs),AV.sl 4 (List.map c_api_Thread o0_Threads),AV.sl 3 (List.map c_api_Claim o0_Claims)]]):=by
 intro h;rcases n with _|n;cases h
 rw [m_prog_all_2] at h
 refine callN_eq' Try.func21 (by rfl) rfl rfl (Nat.le_of_ble_eq_true rfl) ?_
 intro call hc;conv=>lhs;whnf
 revert h
 intro h;refine bind_some2 h ?_;clear h;intro o9 ho9 h
 refine lq (σ:=Int) (τ:=Unit) (ν:=Bool) 0 (fun s1 a3=>stOf 15 [(1,AV.func 27 [] [AV.ptr 0 0]),(6,iA v0_n),(7,iA s1)]) (fun s1 a3=>[Ob.var 26 [iA o0_Mod,AV.sl 3 (List.map c_api_Var o0_Locs),AV.sl 4 (List.map c_api_Thread o0_Threads),AV.sl 3 (List.map c_api_Claim o0_Claims)]]) (fun _ a14=>stOf 15 []) (fun _ a14=>[Ob.var 26 [iA o0_Mod,AV.sl 3 (List.map c_api_Var o0_Locs),AV.sl 4 (List.map c_api_Thread o0_Threads),AV.sl 3 (List.map c_api_Claim o0_Claims)]]) (fun v=>(bA v,[Ob.var 26 [iA o0_Mod,AV.sl 3 (List.map c_api_Var o0_Locs),AV.sl 4 (List.map c_api_Thread o0_Threads),AV.sl 3 (List.map c_api_Claim o0_Claims)]])) (fun k s=>prog_all_2_L0 n v0_n o0_Mod o0_Locs o0_Threads o0_Claims k s) (fun s=>rfl) o9 n 0 (fun _=>0) ho9 ?_ ?_
 intro k2 s1 a3 K4 cont5 hK6 hcont7 h hr8
 replace h:prog_all_2_L0 n v0_n o0_Mod o0_Locs o0_Threads o0_Claims (k2+1) s1=some o9:=h
 rw [prog_all_2_L0] at h
 conv=>lhs;whnf
 revert h
 refine br ?_ ?_
 refine ca hc (fun _ h=>ok_prog_Right_3 h) ?_;intro y11
 refine br ?_ ?_
 exact fun h=>cq (hcont7 (IntKind.i64.wrap (s1+1)) (fun _=>0) h)
 intro h;cases sj h
 refine (hK6 _ _).trans ?_
 refine Eq.trans ?_ (Eq.symm (show _=some _ from hr8))
 conv=>lhs;whnf
 exact rq
 intro h;cases sj h
 exact kq (hr8 (fun _=>0))
 refine lrc ?_ ?_
 intro v e;subst e;cases sj h;rfl
 intro t a14 e;subst e
 dsimp only at h
 conv=>lhs;whnf
 revert h
 exact rz
theorem ok_prog_Right {n:Nat} ⦃v0_p:S_api_Prog⦄ ⦃r:Bool⦄:m_prog_Right n v0_p=some r→CN n 15 [AV.agg [iA v0_p.f_Mod,AV.sl 3 (List.map c_api_Var v0_p.f_Locs),AV.sl 4 (List.map c_api_Thread v0_p.f_Threads),AV.sl 3 (List.map c_api_Claim v0_p.f_Claims)]] []=some (bA r,[]):=by
 intro h;rcases n with _|n;cases h
 rw [m_prog_Right] at h
 refine callN_eq' Try.func15 (by rfl) rfl rfl (Nat.le_of_ble_eq_true rfl) ?_
 intro call hc;conv=>lhs;whnf
 revert h
 refine cr hc (fun _ h=>ok_prog_all h) ?_;intro y1
 refine ca hc (fun _ h=>ok_prog_number h) ?_;intro y3
 refine br ?_ ?_
 refine br ?_ ?_
 refine cr hc (fun _ h=>ok_prog_all_1 h) ?_;intro y7
 refine br ?_ ?_
 refine cr hc (fun _ h=>ok_prog_all_2 h) ?_;intro y10
 exact rz
 exact rz
 exact rz
 exact rz
end Go.Proofs.Ytpnhafdimkmbbaa
end
section
namespace Go.Proofs.Ytpnhafdimkmbbaa
set_option linter.unusedVariables false
set_option linter.unusedSimpArgs false
set_option maxRecDepth 100000
set_option maxHeartbeats 4000000
theorem ok_legal_Check {n:Nat} ⦃v0_p:S_api_Prog⦄ ⦃r:(Int×Int)⦄:m_legal_Check n v0_p=some r→CN n 11 [AV.agg [iA v0_p.f_Mod,AV.sl 3 (List.map c_api_Var v0_p.f_Locs),AV.sl 4 (List.map c_api_Thread v0_p.f_Threads),AV.sl 3 (List.map c_api_Claim v0_p.f_Claims)]] []=some (AV.tup [iA r.1,iA r.2],[]):=by
 intro h;rcases n with _|n;cases h
 rw [m_legal_Check] at h
 refine callN_eq' Try.func11 (by rfl) rfl rfl (Nat.le_of_ble_eq_true rfl) ?_
 intro call hc;conv=>lhs;whnf
 revert h
 refine ca hc (fun _ h=>ok_prog_Right h) ?_;intro y1
 refine br ?_ ?_
 refine br ?_ ?_
 refine cr hc (fun y5 h=>(show CN n 16 [AV.ptr 0 0,bA (decide (v0_p.f_Mod≤16)),iA (11),iA (0)] [Ob.var 52 [iA v0_p.f_Mod,AV.sl 3 (List.map c_api_Var v0_p.f_Locs),AV.sl 4 (List.map c_api_Thread v0_p.f_Threads),AV.sl 3 (List.map c_api_Claim v0_p.f_Claims),AV.mapp 1,AV.mapp 2,iA (0),iA (0)],Ob.mp none false ([]),Ob.mp none false ([])]=some (bA y5.1,[Ob.var 52 [iA v0_p.f_Mod,AV.sl 3 (List.map c_api_Var v0_p.f_Locs),AV.sl 4 (List.map c_api_Thread v0_p.f_Threads),AV.sl 3 (List.map c_api_Claim v0_p.f_Claims),AV.mapp 1,AV.mapp 2,iA y5.2.1,iA y5.2.2],Ob.mp none false ([]),Ob.mp none false ([])]) from ok_legal_checker_must (r:=y5) h)) ?_;intro y5
 refine cr hc (fun y7 h=>(show CN n 17 [AV.ptr 0 0] [Ob.var 52 [iA v0_p.f_Mod,AV.sl 3 (List.map c_api_Var v0_p.f_Locs),AV.sl 4 (List.map c_api_Thread v0_p.f_Threads),AV.sl 3 (List.map c_api_Claim v0_p.f_Claims),AV.mapp 1,AV.mapp 2,iA y5.2.1,iA y5.2.2],Ob.mp none false ([]),Ob.mp none false ([])]=some (AV.tup [],[Ob.var 52 [iA v0_p.f_Mod,AV.sl 3 (List.map c_api_Var v0_p.f_Locs),AV.sl 4 (List.map c_api_Thread v0_p.f_Threads),AV.sl 3 (List.map c_api_Claim v0_p.f_Claims),AV.mapp 1,AV.mapp 2,iA y7.1,iA y7.2.1],Ob.mp none false (List.map c_mp_map_string_int y7.2.2),Ob.mp none false ([])]) from ok_legal_checker_vars (r:=y7) h)) ?_;intro y7
 refine cr hc (fun y9 h=>(show CN n 16 [AV.ptr 0 0,bA (decide (0<((v0_p.f_Threads.length:Nat):Int))),iA (12),iA (0)] [Ob.var 52 [iA v0_p.f_Mod,AV.sl 3 (List.map c_api_Var v0_p.f_Locs),AV.sl 4 (List.map c_api_Thread v0_p.f_Threads),AV.sl 3 (List.map c_api_Claim v0_p.f_Claims),AV.mapp 1,AV.mapp 2,iA y7.1,iA y7.2.1],Ob.mp none false (List.map c_mp_map_string_int y7.2.2),Ob.mp none false ([])]=some (bA y9.1,[Ob.var 52 [iA v0_p.f_Mod,AV.sl 3 (List.map c_api_Var v0_p.f_Locs),AV.sl 4 (List.map c_api_Thread v0_p.f_Threads),AV.sl 3 (List.map c_api_Claim v0_p.f_Claims),AV.mapp 1,AV.mapp 2,iA y9.2.1,iA y9.2.2],Ob.mp none false (List.map c_mp_map_string_int y7.2.2),Ob.mp none false ([])]) from ok_legal_checker_must (r:=y9) h)) ?_;intro y9
 intro h;refine bind_some2 h ?_;clear h;intro o22 ho22 h
 refine lq (σ:=(Int×(List ((List UInt8)×(List ((List UInt8)×Int))))×Int×Int)) (τ:=(Int×Int×(List ((List UInt8)×(List ((List UInt8)×Int)))))) (ν:=(Int×Int)) 0 (fun (s11,s12,s13,s14) a16=>stOf 69 [(1,AV.ptr 0 0),(4,AV.ptr 3 0),(36,AV.sl 4 (List.map c_api_Thread v0_p.f_Threads)),(37,iA (((v0_p.f_Threads.length:Nat):Int))),(38,iA s11)]) (fun (s11,s12,s13,s14) a16=>[Ob.var 26 [iA v0_p.f_Mod,AV.sl 3 (List.map c_api_Var v0_p.f_Locs),AV.sl 4 (List.map c_api_Thread v0_p.f_Threads),AV.sl 3 (List.map c_api_Claim v0_p.f_Claims)],Ob.mp none false (List.map c_mp_map_string_int y7.2.2),Ob.mp none false (List.map c_mp_map_string_map_string_int s12),Ob.var 52 [iA v0_p.f_Mod,AV.sl 3 (List.map c_api_Var v0_p.f_Locs),AV.sl 4 (List.map c_api_Thread v0_p.f_Threads),AV.sl 3 (List.map c_api_Claim v0_p.f_Claims),AV.mapp 1,AV.mapp 2,iA s13,iA s14]]) (fun (x28,x29,x30) a27=>stOf 69 [(1,AV.ptr 0 0),(4,AV.ptr 3 0)]) (fun (x28,x29,x30) a27=>[Ob.var 26 [iA v0_p.f_Mod,AV.sl 3 (List.map c_api_Var v0_p.f_Locs),AV.sl 4 (List.map c_api_Thread v0_p.f_Threads),AV.sl 3 (List.map c_api_Claim v0_p.f_Claims)],Ob.mp none false (List.map c_mp_map_string_int y7.2.2),Ob.mp none false (List.map c_mp_map_string_map_string_int x30),Ob.var 52 [iA v0_p.f_Mod,AV.sl 3 (List.map c_api_Var v0_p.f_Locs),AV.sl 4 (List.map c_api_Thread v0_p.f_Threads),AV.sl 3 (List.map c_api_Claim v0_p.f_Claims),AV.mapp 1,AV.mapp 2,iA x28,iA x29]]) (fun v=>(AV.tup [iA v.1,iA v.2],[])) (fun k s=>legal_Check_L0 n v0_p y7 k s.1 s.2.1 s.2.2.1 s.2.2.2) (fun s=>rfl) o22 n (0,([]:(List ((List UInt8)×(List ((List UInt8)×Int))))),y9.2.1,y9.2.2) (fun _=>0) ho22 ?_ ?_
 intro k15 ss a16 K17 cont18 hK19 hcont20 h hr21
 obtain ⟨s11,s12,s13,s14⟩:=ss
 replace h:legal_Check_L0 n v0_p y7 (k15+1) s11 s12 s13 s14=some o22:=h
 rw [legal_Check_L0] at h
 conv=>lhs;whnf
 revert h
 refine br ?_ ?_
 refine ix ?_;intro x24
 refine ca hc (fun _ h=>ok_legal_checker_thread h) ?_;intro y25
 exact fun h=>cq (hcont20 (IntKind.i64.wrap (s11+1),y25.2.2,y25.1,y25.2.1) (fun _=>0) h)
 intro h;cases sj h
 exact kq (hr21 (fun _=>0))
 refine lrc ?_ ?_
 intro v e;subst e;cases sj h;rfl
 intro t a27 e;subst e
 obtain ⟨x28,x29,x30⟩:=t
 dsimp only at h
 conv=>lhs;whnf
 revert h
 intro h;refine bind_some2 h ?_;clear h;intro o41 ho41 h
 refine lq (σ:=(Int×Int×Int)) (τ:=(Int×Int)) (ν:=(Int×Int)) 2 (fun (s31,s32,s33) a35=>stOf 69 [(4,AV.ptr 3 0),(49,AV.sl 3 (List.map c_api_Claim v0_p.f_Claims)),(50,iA (((v0_p.f_Claims.length:Nat):Int))),(51,iA s31)]) (fun (s31,s32,s33) a35=>[Ob.var 26 [iA v0_p.f_Mod,AV.sl 3 (List.map c_api_Var v0_p.f_Locs),AV.sl 4 (List.map c_api_Thread v0_p.f_Threads),AV.sl 3 (List.map c_api_Claim v0_p.f_Claims)],Ob.mp none false (List.map c_mp_map_string_int y7.2.2),Ob.mp none false (List.map c_mp_map_string_map_string_int x30),Ob.var 52 [iA v0_p.f_Mod,AV.sl 3 (List.map c_api_Var v0_p.f_Locs),AV.sl 4 (List.map c_api_Thread v0_p.f_Threads),AV.sl 3 (List.map c_api_Claim v0_p.f_Claims),AV.mapp 1,AV.mapp 2,iA s32,iA s33]]) (fun (x47,x48) a46=>stOf 69 [(4,AV.ptr 3 0)]) (fun (x47,x48) a46=>[Ob.var 26 [iA v0_p.f_Mod,AV.sl 3 (List.map c_api_Var v0_p.f_Locs),AV.sl 4 (List.map c_api_Thread v0_p.f_Threads),AV.sl 3 (List.map c_api_Claim v0_p.f_Claims)],Ob.mp none false (List.map c_mp_map_string_int y7.2.2),Ob.mp none false (List.map c_mp_map_string_map_string_int x30),Ob.var 52 [iA v0_p.f_Mod,AV.sl 3 (List.map c_api_Var v0_p.f_Locs),AV.sl 4 (List.map c_api_Thread v0_p.f_Threads),AV.sl 3 (List.map c_api_Claim v0_p.f_Claims),AV.mapp 1,AV.mapp 2,iA x47,iA x48]]) (fun v=>(AV.tup [iA v.1,iA v.2],[])) (fun k s=>legal_Check_L1 n v0_p y7 x30 k s.1 s.2.1 s.2.2) (fun s=>rfl) o41 n (0,x28,x29) (fun _=>0) ho41 ?_ ?_
 intro k34 ss a35 K36 cont37 hK38 hcont39 h hr40
 obtain ⟨s31,s32,s33⟩:=ss
 replace h:legal_Check_L1 n v0_p y7 x30 (k34+1) s31 s32 s33=some o41:=h
 rw [legal_Check_L1] at h
 conv=>lhs;whnf
 revert h
 refine br ?_ ?_
 refine ix ?_;intro x43
 refine ca hc (fun _ h=>ok_legal_checker_claim h) ?_;intro y44
 exact fun h=>cq (hcont39 (IntKind.i64.wrap (s31+1),y44.1,y44.2) (fun _=>0) h)
 intro h;cases sj h
 exact kq (hr40 (fun _=>0))
 refine lrc ?_ ?_
 intro v e;subst e;cases sj h;rfl
 intro t a46 e;subst e
 obtain ⟨x47,x48⟩:=t
 dsimp only at h
 conv=>lhs;whnf
 revert h
 exact rz
 refine cr hc (fun y51 h=>(show CN n 16 [AV.ptr 0 0,bA false,iA (11),iA (0)] [Ob.var 52 [iA v0_p.f_Mod,AV.sl 3 (List.map c_api_Var v0_p.f_Locs),AV.sl 4 (List.map c_api_Thread v0_p.f_Threads),AV.sl 3 (List.map c_api_Claim v0_p.f_Claims),AV.mapp 1,AV.mapp 2,iA (0),iA (0)],Ob.mp none false ([]),Ob.mp none false ([])]=some (bA y51.1,[Ob.var 52 [iA v0_p.f_Mod,AV.sl 3 (List.map c_api_Var v0_p.f_Locs),AV.sl 4 (List.map c_api_Thread v0_p.f_Threads),AV.sl 3 (List.map c_api_Claim v0_p.f_Claims),AV.mapp 1,AV.mapp 2,iA y51.2.1,iA y51.2.2],Ob.mp none false ([]),Ob.mp none false ([])]) from ok_legal_checker_must (r:=y51) h)) ?_;intro y51
 refine cr hc (fun y53 h=>(show CN n 17 [AV.ptr 0 0] [Ob.var 52 [iA v0_p.f_Mod,AV.sl 3 (List.map c_api_Var v0_p.f_Locs),AV.sl 4 (List.map c_api_Thread v0_p.f_Threads),AV.sl 3 (List.map c_api_Claim v0_p.f_Claims),AV.mapp 1,AV.mapp 2,iA y51.2.1,iA y51.2.2],Ob.mp none false ([]),Ob.mp none false ([])]=some (AV.tup [],[Ob.var 52 [iA v0_p.f_Mod,AV.sl 3 (List.map c_api_Var v0_p.f_Locs),AV.sl 4 (List.map c_api_Thread v0_p.f_Threads),AV.sl 3 (List.map c_api_Claim v0_p.f_Claims),AV.mapp 1,AV.mapp 2,iA y53.1,iA y53.2.1],Ob.mp none false (List.map c_mp_map_string_int y53.2.2),Ob.mp none false ([])]) from ok_legal_checker_vars (r:=y53) h)) ?_;intro y53
 refine cr hc (fun y55 h=>(show CN n 16 [AV.ptr 0 0,bA (decide (0<((v0_p.f_Threads.length:Nat):Int))),iA (12),iA (0)] [Ob.var 52 [iA v0_p.f_Mod,AV.sl 3 (List.map c_api_Var v0_p.f_Locs),AV.sl 4 (List.map c_api_Thread v0_p.f_Threads),AV.sl 3 (List.map c_api_Claim v0_p.f_Claims),AV.mapp 1,AV.mapp 2,iA y53.1,iA y53.2.1],Ob.mp none false (List.map c_mp_map_string_int y53.2.2),Ob.mp none false ([])]=some (bA y55.1,[Ob.var 52 [iA v0_p.f_Mod,AV.sl 3 (List.map c_api_Var v0_p.f_Locs),AV.sl 4 (List.map c_api_Thread v0_p.f_Threads),AV.sl 3 (List.map c_api_Claim v0_p.f_Claims),AV.mapp 1,AV.mapp 2,iA y55.2.1,iA y55.2.2],Ob.mp none false (List.map c_mp_map_string_int y53.2.2),Ob.mp none false ([])]) from ok_legal_checker_must (r:=y55) h)) ?_;intro y55
 intro h;refine bind_some2 h ?_;clear h;intro o68 ho68 h
 refine lq (σ:=(Int×(List ((List UInt8)×(List ((List UInt8)×Int))))×Int×Int)) (τ:=(Int×Int×(List ((List UInt8)×(List ((List UInt8)×Int)))))) (ν:=(Int×Int)) 0 (fun (s57,s58,s59,s60) a62=>stOf 69 [(1,AV.ptr 0 0),(4,AV.ptr 3 0),(36,AV.sl 4 (List.map c_api_Thread v0_p.f_Threads)),(37,iA (((v0_p.f_Threads.length:Nat):Int))),(38,iA s57)]) (fun (s57,s58,s59,s60) a62=>[Ob.var 26 [iA v0_p.f_Mod,AV.sl 3 (List.map c_api_Var v0_p.f_Locs),AV.sl 4 (List.map c_api_Thread v0_p.f_Threads),AV.sl 3 (List.map c_api_Claim v0_p.f_Claims)],Ob.mp none false (List.map c_mp_map_string_int y53.2.2),Ob.mp none false (List.map c_mp_map_string_map_string_int s58),Ob.var 52 [iA v0_p.f_Mod,AV.sl 3 (List.map c_api_Var v0_p.f_Locs),AV.sl 4 (List.map c_api_Thread v0_p.f_Threads),AV.sl 3 (List.map c_api_Claim v0_p.f_Claims),AV.mapp 1,AV.mapp 2,iA s59,iA s60]]) (fun (x74,x75,x76) a73=>stOf 69 [(1,AV.ptr 0 0),(4,AV.ptr 3 0)]) (fun (x74,x75,x76) a73=>[Ob.var 26 [iA v0_p.f_Mod,AV.sl 3 (List.map c_api_Var v0_p.f_Locs),AV.sl 4 (List.map c_api_Thread v0_p.f_Threads),AV.sl 3 (List.map c_api_Claim v0_p.f_Claims)],Ob.mp none false (List.map c_mp_map_string_int y53.2.2),Ob.mp none false (List.map c_mp_map_string_map_string_int x76),Ob.var 52 [iA v0_p.f_Mod,AV.sl 3 (List.map c_api_Var v0_p.f_Locs),AV.sl 4 (List.map c_api_Thread v0_p.f_Threads),AV.sl 3 (List.map c_api_Claim v0_p.f_Claims),AV.mapp 1,AV.mapp 2,iA x74,iA x75]]) (fun v=>(AV.tup [iA v.1,iA v.2],[])) (fun k s=>legal_Check_L2 n v0_p y53 k s.1 s.2.1 s.2.2.1 s.2.2.2) (fun s=>rfl) o68 n (0,([]:(List ((List UInt8)×(List ((List UInt8)×Int))))),y55.2.1,y55.2.2) (fun _=>0) ho68 ?_ ?_
 intro k61 ss a62 K63 cont64 hK65 hcont66 h hr67
 obtain ⟨s57,s58,s59,s60⟩:=ss
 replace h:legal_Check_L2 n v0_p y53 (k61+1) s57 s58 s59 s60=some o68:=h
 rw [legal_Check_L2] at h
 conv=>lhs;whnf
 revert h
 refine br ?_ ?_
 refine ix ?_;intro x70
 refine ca hc (fun _ h=>ok_legal_checker_thread h) ?_;intro y71
 exact fun h=>cq (hcont66 (IntKind.i64.wrap (s57+1),y71.2.2,y71.1,y71.2.1) (fun _=>0) h)
 intro h;cases sj h
 exact kq (hr67 (fun _=>0))
 refine lrc ?_ ?_
 intro v e;subst e;cases sj h;rfl
 intro t a73 e;subst e
 obtain ⟨x74,x75,x76⟩:=t
 dsimp only at h
 conv=>lhs;whnf
 revert h
 intro h;refine bind_some2 h ?_;clear h;intro o87 ho87 h
 refine lq (σ:=(Int×Int×Int)) (τ:=(Int×Int)) (ν:=(Int×Int)) 2 (fun (s77,s78,s79) a81=>stOf 69 [(4,AV.ptr 3 0),(49,AV.sl 3 (List.map c_api_Claim v0_p.f_Claims)),(50,iA (((v0_p.f_Claims.length:Nat):Int))),(51,iA s77)]) (fun (s77,s78,s79) a81=>[Ob.var 26 [iA v0_p.f_Mod,AV.sl 3 (List.map c_api_Var v0_p.f_Locs),AV.sl 4 (List.map c_api_Thread v0_p.f_Threads),AV.sl 3 (List.map c_api_Claim v0_p.f_Claims)],Ob.mp none false (List.map c_mp_map_string_int y53.2.2),Ob.mp none false (List.map c_mp_map_string_map_string_int x76),Ob.var 52 [iA v0_p.f_Mod,AV.sl 3 (List.map c_api_Var v0_p.f_Locs),AV.sl 4 (List.map c_api_Thread v0_p.f_Threads),AV.sl 3 (List.map c_api_Claim v0_p.f_Claims),AV.mapp 1,AV.mapp 2,iA s78,iA s79]]) (fun (x93,x94) a92=>stOf 69 [(4,AV.ptr 3 0)]) (fun (x93,x94) a92=>[Ob.var 26 [iA v0_p.f_Mod,AV.sl 3 (List.map c_api_Var v0_p.f_Locs),AV.sl 4 (List.map c_api_Thread v0_p.f_Threads),AV.sl 3 (List.map c_api_Claim v0_p.f_Claims)],Ob.mp none false (List.map c_mp_map_string_int y53.2.2),Ob.mp none false (List.map c_mp_map_string_map_string_int x76),Ob.var 52 [iA v0_p.f_Mod,AV.sl 3 (List.map c_api_Var v0_p.f_Locs),AV.sl 4 (List.map c_api_Thread v0_p.f_Threads),AV.sl 3 (List.map c_api_Claim v0_p.f_Claims),AV.mapp 1,AV.mapp 2,iA x93,iA x94]]) (fun v=>(AV.tup [iA v.1,iA v.2],[])) (fun k s=>legal_Check_L3 n v0_p y53 x76 k s.1 s.2.1 s.2.2) (fun s=>rfl) o87 n (0,x74,x75) (fun _=>0) ho87 ?_ ?_
 intro k80 ss a81 K82 cont83 hK84 hcont85 h hr86
 obtain ⟨s77,s78,s79⟩:=ss
 replace h:legal_Check_L3 n v0_p y53 x76 (k80+1) s77 s78 s79=some o87:=h
 rw [legal_Check_L3] at h
 conv=>lhs;whnf
 revert h
 refine br ?_ ?_
 refine ix ?_;intro x89
 refine ca hc (fun _ h=>ok_legal_checker_claim h) ?_;intro y90
 exact fun h=>cq (hcont85 (IntKind.i64.wrap (s77+1),y90.1,y90.2) (fun _=>0) h)
 intro h;cases sj h
 exact kq (hr86 (fun _=>0))
 refine lrc ?_ ?_
 intro v e;subst e;cases sj h;rfl
 intro t a92 e;subst e
 obtain ⟨x93,x94⟩:=t
 dsimp only at h
 conv=>lhs;whnf
 revert h
 exact rz
 exact rz
theorem ok_legal_Index {n:Nat} ⦃v0_l:(List (List UInt8))⦄ ⦃v1_name:(List UInt8)⦄ ⦃r:Int⦄:m_legal_Index n v0_l v1_name=some r→CN n 9 [AV.sl 1 (List.map encS v0_l),sA v1_name] []=some (iA r,[]):=by
 intro h;rcases n with _|n;cases h
 rw [m_legal_Index] at h
 refine callN_eq' Try.func9 (by rfl) rfl rfl (Nat.le_of_ble_eq_true rfl) ?_
 intro call hc;conv=>lhs;whnf
 revert h
 intro h;refine bind_some2 h ?_;clear h;intro o9 ho9 h
 refine lq (σ:=Int) (τ:=Unit) (ν:=Int) 0 (fun s1 a3=>stOf 19 [(1,sA v1_name),(7,AV.sl 1 (List.map encS v0_l)),(8,iA (((v0_l.length:Nat):Int))),(9,iA s1)]) (fun s1 a3=>[]) (fun _ a13=>stOf 19 []) (fun _ a13=>[]) (fun v=>(iA v,[])) (fun k s=>legal_Index_L0 n v0_l v1_name k s) (fun s=>rfl) o9 n 0 (fun _=>0) ho9 ?_ ?_
 intro k2 s1 a3 K4 cont5 hK6 hcont7 h hr8
 replace h:legal_Index_L0 n v0_l v1_name (k2+1) s1=some o9:=h
 rw [legal_Index_L0] at h
 conv=>lhs;whnf
 revert h
 refine br ?_ ?_
 refine ix ?_;intro x11
 refine br ?_ ?_
 intro h;cases sj h
 refine (hK6 _ _).trans ?_
 refine Eq.trans ?_ (Eq.symm (show _=some _ from hr8))
 conv=>lhs;whnf
 exact rq
 exact fun h=>cq (hcont7 (IntKind.i64.wrap (s1+1)) (fun _=>0) h)
 intro h;cases sj h
 exact kq (hr8 (fun _=>0))
 refine lrc ?_ ?_
 intro v e;subst e;cases sj h;rfl
 intro t a13 e;subst e
 dsimp only at h
 conv=>lhs;whnf
 revert h
 exact rz
theorem ok_legal_Locs {n:Nat} ⦃v0_p:S_api_Prog⦄ ⦃r:(List (List UInt8))⦄:m_legal_Locs n v0_p=some r→CN n 7 [AV.agg [iA v0_p.f_Mod,AV.sl 3 (List.map c_api_Var v0_p.f_Locs),AV.sl 4 (List.map c_api_Thread v0_p.f_Threads),AV.sl 3 (List.map c_api_Claim v0_p.f_Claims)]] []=some (AV.sl 1 (List.map encS r),[]):=by
 intro h;rcases n with _|n;cases h
 rw [m_legal_Locs] at h
 refine callN_eq' Try.func7 (by rfl) rfl rfl (Nat.le_of_ble_eq_true rfl) ?_
 intro call hc;conv=>lhs;whnf
 revert h
 intro h;refine bind_some2 h ?_;clear h;intro o10 ho10 h
 refine lq (σ:=(Int×(List (List UInt8)))) (τ:=(List (List UInt8))) (ν:=(List (List UInt8))) 0 (fun (s1,s2) a4=>stOf 20 [(3,AV.row 1 (List.length s2)),(7,AV.sl 3 (List.map c_api_Var v0_p.f_Locs)),(8,iA (((v0_p.f_Locs.length:Nat):Int))),(9,iA s1)]) (fun (s1,s2) a4=>[Ob.var 26 [iA v0_p.f_Mod,AV.sl 3 (List.map c_api_Var v0_p.f_Locs),AV.sl 4 (List.map c_api_Thread v0_p.f_Threads),AV.sl 3 (List.map c_api_Claim v0_p.f_Claims)],Ob.row 9 1 (List.map encS s2)]) (fun x16 a15=>stOf 20 [(3,AV.row 1 (List.length x16))]) (fun x16 a15=>[Ob.var 26 [iA v0_p.f_Mod,AV.sl 3 (List.map c_api_Var v0_p.f_Locs),AV.sl 4 (List.map c_api_Thread v0_p.f_Threads),AV.sl 3 (List.map c_api_Claim v0_p.f_Claims)],Ob.row 9 1 (List.map encS x16)]) (fun v=>(AV.sl 1 (List.map encS v),[])) (fun k s=>legal_Locs_L0 n v0_p k s.1 s.2) (fun s=>rfl) o10 n (0,([]:List (List UInt8))) (fun _=>0) ho10 ?_ ?_
 intro k3 ss a4 K5 cont6 hK7 hcont8 h hr9
 obtain ⟨s1,s2⟩:=ss
 replace h:legal_Locs_L0 n v0_p (k3+1) s1 s2=some o10:=h
 rw [legal_Locs_L0] at h
 conv=>lhs;whnf
 revert h
 refine br ?_ ?_
 refine ix ?_;intro x12
 refine ar (ap encS (List.map encS s2) s2 ([[sA x12.f_Name]]) ([x12.f_Name]:List (List UInt8))) ?_
 exact fun h=>cq (hcont8 (IntKind.i64.wrap (s1+1),(s2++([x12.f_Name]:List (List UInt8)))) (fun _=>0) h)
 intro h;cases sj h
 exact kq (hr9 (fun _=>0))
 refine lrc ?_ ?_
 intro v e;subst e;cases sj h;rfl
 intro x16 a15 e;subst e
 dsimp only at h
 conv=>lhs;whnf
 revert h
 intro h;obtain rfl:=sj h
 try simp only [ls]
 exact fq (y:=some (AV.sl 1 (List.take (List.length x16) (List.map encS x16)),[]))
end Go.Proofs.Ytpnhafdimkmbbaa
end
section
namespace Go.Proofs.Ytpnhafdimkmbbaa
set_option linter.unusedVariables false
set_option linter.unusedSimpArgs false
set_option maxRecDepth 100000
set_option maxHeartbeats 4000000
theorem ok_ref01_gap {n:Nat} ⦃v0_s:(List UInt8)⦄ ⦃v1_at:Int⦄ ⦃r:Int⦄:m_ref01_gap n v0_s v1_at=some r→CN n 50 [sA v0_s,iA v1_at] []=some (iA r,[]):=by
 intro h;rcases n with _|n;cases h
 rw [m_ref01_gap] at h
 refine callN_eq' Try.func50 (by rfl) rfl rfl (Nat.le_of_ble_eq_true rfl) ?_
 intro call hc;conv=>lhs;whnf
 revert h
 intro h;refine bind_some2 h ?_;clear h;intro o9 ho9 h
 refine lq (σ:=Int) (τ:=Int) (ν:=Int) 0 (fun s1 a3=>stOf 53 [(0,sA v0_s),(1,iA s1)]) (fun s1 a3=>[]) (fun x37 a36=>stOf 53 [(1,iA x37)]) (fun x37 a36=>[]) (fun v=>(iA v,[])) (fun k s=>ref01_gap_L0 n v0_s k s) (fun s=>rfl) o9 n v1_at (fun _=>0) ho9 ?_ ?_
 intro k2 s1 a3 K4 cont5 hK6 hcont7 h hr8
 replace h:ref01_gap_L0 n v0_s (k2+1) s1=some o9:=h
 rw [ref01_gap_L0] at h
 conv=>lhs;whnf
 revert h
 refine br ?_ ?_
 refine ixs ?_;intro x11
 refine br ?_ ?_
 exact fun h=>cq (hcont7 (IntKind.i64.wrap (s1+1)) (fun _=>0) h)
 refine ixs ?_;intro x13
 refine br ?_ ?_
 exact fun h=>cq (hcont7 (IntKind.i64.wrap (s1+1)) (fun _=>0) h)
 refine ixs ?_;intro x15
 refine br ?_ ?_
 exact fun h=>cq (hcont7 (IntKind.i64.wrap (s1+1)) (fun _=>0) h)
 refine ixs ?_;intro x17
 refine br ?_ ?_
 exact fun h=>cq (hcont7 (IntKind.i64.wrap (s1+1)) (fun _=>0) h)
 refine ixs ?_;intro x19
 refine br ?_ ?_
 intro h;refine bind_some2 h ?_;clear h;intro o29 ho29 h
 refine lq (σ:=Int) (τ:=Int) (ν:=Int) 3 (fun s21 a23=>stOf 53 [(0,sA v0_s),(1,iA s21)]) (fun s21 a23=>[]) (fun x34 a33=>stOf 53 [(0,sA v0_s),(1,iA x34)]) (fun x34 a33=>[]) (fun v=>(iA v,[])) (fun k s=>ref01_gap_L1 n v0_s k s) (fun s=>rfl) o29 n s1 (fun _=>0) ho29 ?_ ?_
 intro k22 s21 a23 K24 cont25 hK26 hcont27 h hr28
 replace h:ref01_gap_L1 n v0_s (k22+1) s21=some o29:=h
 rw [ref01_gap_L1] at h
 conv=>lhs;whnf
 revert h
 refine br ?_ ?_
 refine ixs ?_;intro x31
 refine br ?_ ?_
 exact fun h=>cq (hcont27 (IntKind.i64.wrap (s21+1)) (fun _=>0) h)
 intro h;cases sj h
 exact kq (hr28 (fun _=>0))
 intro h;cases sj h
 exact kq (hr28 (fun _=>0))
 refine lrc ?_ ?_
 intro v e;subst e;cases sj h;exact hr8
 intro x34 a33 e;subst e
 dsimp only at h
 conv=>lhs;whnf
 revert h
 exact fun h=>cq (hcont7 x34 (fun _=>0) h)
 intro h;cases sj h
 refine (hK6 _ _).trans ?_
 refine Eq.trans ?_ (Eq.symm (show _=some _ from hr8))
 conv=>lhs;whnf
 exact rq
 intro h;cases sj h
 exact kq (hr8 (fun _=>0))
 refine lrc ?_ ?_
 intro v e;subst e;cases sj h;rfl
 intro x37 a36 e;subst e
 dsimp only at h
 conv=>lhs;whnf
 revert h
 exact rz
theorem ok_ref01_digit {n:Nat} ⦃v0_c:Int⦄ ⦃r:Bool⦄:m_ref01_digit n v0_c=some r→CN n 65 [AV.int .u8 v0_c] []=some (bA r,[]):=by
 intro h;rcases n with _|n;cases h
 rw [m_ref01_digit] at h
 refine callN_eq' Try.func65 (by rfl) rfl rfl (Nat.le_of_ble_eq_true rfl) ?_
 intro call hc;conv=>lhs;whnf
 revert h
 refine br ?_ ?_
 exact rz
 exact rz
theorem ok_ref01_letter {n:Nat} ⦃v0_c:Int⦄ ⦃r:Bool⦄:m_ref01_letter n v0_c=some r→CN n 64 [AV.int .u8 v0_c] []=some (bA r,[]):=by
 intro h;rcases n with _|n;cases h
 rw [m_ref01_letter] at h
 refine callN_eq' Try.func64 (by rfl) rfl rfl (Nat.le_of_ble_eq_true rfl) ?_
 intro call hc;conv=>lhs;whnf
 revert h
 refine br ?_ ?_
 refine br ?_ ?_
 exact rz
 refine br ?_ ?_
 refine br ?_ ?_
 exact rz
 exact rz
 exact rz
 refine br ?_ ?_
 refine br ?_ ?_
 exact rz
 exact rz
 exact rz
theorem ok_ref01_signs {n:Nat} ⦃r:(List (List UInt8))⦄:m_ref01_signs n=some r→CN n 66 [] []=some (AV.sl 1 (List.map encS r),[]):=by
 intro h;rcases n with _|n;cases h
 rw [m_ref01_signs] at h
 refine callN_eq' Try.func66 (by rfl) rfl rfl (Nat.le_of_ble_eq_true rfl) ?_
 intro call hc;conv=>lhs;whnf
 revert h
 exact rz
theorem ok_ref01_one {n:Nat} ⦃v0_s:(List UInt8)⦄ ⦃v1_at:Int⦄ ⦃r:(S_api_Token×Int)⦄:m_ref01_one n v0_s v1_at=some r→CN n 51 [sA v0_s,iA v1_at] []=some (AV.tup [AV.agg [iA r.1.f_Kind,sA r.1.f_Text,iA r.1.f_N,iA r.1.f_At],iA r.2],[]):=by
 intro h;rcases n with _|n;cases h
 rw [m_ref01_one] at h
 refine callN_eq' Try.func51 (by rfl) rfl rfl (Nat.le_of_ble_eq_true rfl) ?_
 intro call hc;conv=>lhs;whnf
 revert h
 intro h;refine bind_some2 h ?_;clear h;intro o9 ho9 h
 refine lq (σ:=Int) (τ:=Int) (ν:=(S_api_Token×Int)) 0 (fun s1 a3=>stOf 119 [(0,sA v0_s),(1,iA v1_at),(4,AV.ptr 0 0),(6,iA s1)]) (fun s1 a3=>[Ob.var 80 [iA (0),sA (([]:List UInt8)),iA (0),iA (0)]]) (fun x21 a20=>stOf 119 [(0,sA v0_s),(1,iA v1_at),(4,AV.ptr 0 0),(6,iA x21)]) (fun x21 a20=>[Ob.var 80 [iA (0),sA (([]:List UInt8)),iA (0),iA (0)]]) (fun v=>(AV.tup [AV.agg [iA v.1.f_Kind,sA v.1.f_Text,iA v.1.f_N,iA v.1.f_At],iA v.2],[])) (fun k s=>ref01_one_L0 n v0_s v1_at k s) (fun s=>rfl) o9 n v1_at (fun _=>0) ho9 ?_ ?_
 intro k2 s1 a3 K4 cont5 hK6 hcont7 h hr8
 replace h:ref01_one_L0 n v0_s v1_at (k2+1) s1=some o9:=h
 rw [ref01_one_L0] at h
 conv=>lhs;whnf
 revert h
 refine br ?_ ?_
 refine ixs ?_;intro x11
 refine ca hc (fun _ h=>ok_ref01_letter h) ?_;intro y12
 refine br ?_ ?_
 exact fun h=>cq (hcont7 (IntKind.i64.wrap (s1+1)) (fun _=>0) h)
 refine br ?_ ?_
 refine ixs ?_;intro x16
 refine ca hc (fun _ h=>ok_ref01_digit h) ?_;intro y17
 refine br ?_ ?_
 exact fun h=>cq (hcont7 (IntKind.i64.wrap (s1+1)) (fun _=>0) h)
 intro h;cases sj h
 exact kq (hr8 (fun _=>0))
 intro h;cases sj h
 exact kq (hr8 (fun _=>0))
 intro h;cases sj h
 exact kq (hr8 (fun _=>0))
 refine lrc ?_ ?_
 intro v e;subst e;cases sj h;rfl
 intro x21 a20 e;subst e
 dsimp only at h
 conv=>lhs;whnf
 revert h
 refine br ?_ ?_
 refine br ?_ ?_
 exact rz
 refine cp ?_
 exact rz
 intro h;refine bind_some2 h ?_;clear h;intro o34 ho34 h
 refine lq (σ:=(Int×Int)) (τ:=(Int×Int)) (ν:=(S_api_Token×Int)) 2 (fun (s25,s26) a28=>stOf 119 [(0,sA v0_s),(1,iA v1_at),(4,AV.ptr 0 0),(6,iA s25),(7,iA s26)]) (fun (s25,s26) a28=>[Ob.var 80 [iA (0),sA (([]:List UInt8)),iA (0),iA (0)]]) (fun (x42,x43) a41=>stOf 119 [(0,sA v0_s),(1,iA v1_at),(4,AV.ptr 0 0),(6,iA x42),(7,iA x43)]) (fun (x42,x43) a41=>[Ob.var 80 [iA (0),sA (([]:List UInt8)),iA (0),iA (0)]]) (fun v=>(AV.tup [AV.agg [iA v.1.f_Kind,sA v.1.f_Text,iA v.1.f_N,iA v.1.f_At],iA v.2],[])) (fun k s=>ref01_one_L1 n v0_s k s.1 s.2) (fun s=>rfl) o34 n (x21,0) (fun _=>0) ho34 ?_ ?_
 intro k27 ss a28 K29 cont30 hK31 hcont32 h hr33
 obtain ⟨s25,s26⟩:=ss
 replace h:ref01_one_L1 n v0_s (k27+1) s25 s26=some o34:=h
 rw [ref01_one_L1] at h
 conv=>lhs;whnf
 revert h
 refine br ?_ ?_
 refine ixs ?_;intro x36
 refine ca hc (fun _ h=>ok_ref01_digit h) ?_;intro y37
 refine br ?_ ?_
 refine ixs ?_;intro x40
 exact fun h=>cq (hcont32 (IntKind.i64.wrap (s25+1),(if 10000<(IntKind.i64.wrap ((IntKind.i64.wrap (10 * s26))+(IntKind.i64.wrap (IntKind.u8.wrap ((x40.toNat:Int) - 48))))) then 10000 else (IntKind.i64.wrap ((IntKind.i64.wrap (10 * s26))+(IntKind.i64.wrap (IntKind.u8.wrap ((x40.toNat:Int) - 48))))))) (fun _=>0) h)
 intro h;cases sj h
 exact kq (hr33 (fun _=>0))
 intro h;cases sj h
 exact kq (hr33 (fun _=>0))
 refine lrc ?_ ?_
 intro v e;subst e;cases sj h;rfl
 intro t a41 e;subst e
 obtain ⟨x42,x43⟩:=t
 dsimp only at h
 conv=>lhs;whnf
 revert h
 refine br ?_ ?_
 refine br ?_ ?_
 exact rz
 refine cp ?_
 exact rz
 refine ca hc (fun _ h=>ok_ref01_signs h) ?_;intro y47
 intro h;refine bind_some2 h ?_;clear h;intro o57 ho57 h
 refine lq (σ:=Int) (τ:=Unit) (ν:=(S_api_Token×Int)) 4 (fun s49 a51=>stOf 119 [(0,sA v0_s),(1,iA v1_at),(4,AV.ptr 0 0),(8,AV.sl 1 (List.map encS y47)),(9,iA s49)]) (fun s49 a51=>[Ob.var 80 [iA (0),sA (([]:List UInt8)),iA (0),iA (0)]]) (fun _ a65=>stOf 119 [(4,AV.ptr 0 0)]) (fun _ a65=>[Ob.var 80 [iA (0),sA (([]:List UInt8)),iA (0),iA (0)]]) (fun v=>(AV.tup [AV.agg [iA v.1.f_Kind,sA v.1.f_Text,iA v.1.f_N,iA v.1.f_At],iA v.2],[])) (fun k s=>ref01_one_L2 n v0_s v1_at y47 k s) (fun s=>rfl) o57 n 0 (fun _=>0) ho57 ?_ ?_
 intro k50 s49 a51 K52 cont53 hK54 hcont55 h hr56
 replace h:ref01_one_L2 n v0_s v1_at y47 (k50+1) s49=some o57:=h
 rw [ref01_one_L2] at h
 conv=>lhs;whnf
 revert h
 refine br ?_ ?_
 refine ix ?_;intro x59
 refine br ?_ ?_
 refine cp ?_
 refine ix ?_;intro x62
 refine br ?_ ?_
 refine ix ?_;intro x64
 intro h;cases sj h
 refine (hK54 _ _).trans ?_
 refine Eq.trans ?_ (Eq.symm (show _=some _ from hr56))
 conv=>lhs;whnf
 exact rq
 exact fun h=>cq (hcont55 (IntKind.i64.wrap (s49+1)) (fun _=>0) h)
 exact fun h=>cq (hcont55 (IntKind.i64.wrap (s49+1)) (fun _=>0) h)
 intro h;cases sj h
 exact kq (hr56 (fun _=>0))
 refine lrc ?_ ?_
 intro v e;subst e;cases sj h;rfl
 intro t a65 e;subst e
 dsimp only at h
 conv=>lhs;whnf
 revert h
 exact rz
theorem ok_ref01_Scan {n:Nat} ⦃v0_s:(List UInt8)⦄ ⦃r:((List S_api_Token)×Int×Int)⦄:m_ref01_Scan n v0_s=some r→CN n 32 [sA v0_s] []=some (AV.tup [AV.sl 4 (List.map c_api_Token r.1),iA r.2.1,iA r.2.2],[]):=by
 intro h;rcases n with _|n;cases h
 rw [m_ref01_Scan] at h
 refine callN_eq' Try.func32 (by rfl) rfl rfl (Nat.le_of_ble_eq_true rfl) ?_
 intro call hc;conv=>lhs;whnf
 revert h
 refine br ?_ ?_
 exact rz
 refine ca hc (fun _ h=>ok_ref01_gap h) ?_;intro y2
 intro h;refine bind_some2 h ?_;clear h;intro o13 ho13 h
 refine lq (σ:=(Int×(List S_api_Token))) (τ:=(List S_api_Token)) (ν:=((List S_api_Token)×Int×Int)) 0 (fun (s4,s5) a7=>stOf 40 [(0,sA v0_s),(5,AV.row 0 (List.length s5)),(6,iA s4)]) (fun (s4,s5) a7=>[Ob.row 80 4 (List.map c_api_Token s5)]) (fun x23 a22=>stOf 40 [(5,AV.row 0 (List.length x23))]) (fun x23 a22=>[Ob.row 80 4 (List.map c_api_Token x23)]) (fun v=>(AV.tup [AV.sl 4 (List.map c_api_Token v.1),iA v.2.1,iA v.2.2],[])) (fun k s=>ref01_Scan_L0 n v0_s k s.1 s.2) (fun s=>rfl) o13 n (y2,([]:List S_api_Token)) (fun _=>0) ho13 ?_ ?_
 intro k6 ss a7 K8 cont9 hK10 hcont11 h hr12
 obtain ⟨s4,s5⟩:=ss
 replace h:ref01_Scan_L0 n v0_s (k6+1) s4 s5=some o13:=h
 rw [ref01_Scan_L0] at h
 conv=>lhs;whnf
 revert h
 refine br ?_ ?_
 refine ca hc (fun _ h=>ok_ref01_one h) ?_;intro y15
 refine br ?_ ?_
 intro h;cases sj h
 refine (hK10 _ _).trans ?_
 refine Eq.trans ?_ (Eq.symm (show _=some _ from hr12))
 conv=>lhs;whnf
 exact rq
 refine ar (ap c_api_Token (List.map c_api_Token s5) s5 ([[iA y15.1.f_Kind,sA y15.1.f_Text,iA y15.1.f_N,iA y15.1.f_At]]) ([y15.1]:List S_api_Token)) ?_
 refine cr hc (fun _ h=>ok_ref01_gap h) ?_;intro y20
 exact fun h=>cq (hcont11 (y20,(s5++([y15.1]:List S_api_Token))) (fun _=>0) h)
 intro h;cases sj h
 exact kq (hr12 (fun _=>0))
 refine lrc ?_ ?_
 intro v e;subst e;cases sj h;rfl
 intro x23 a22 e;subst e
 dsimp only at h
 conv=>lhs;whnf
 revert h
 intro h;cases sj h
 try simp only [ls]
 exact fq (y:=some (AV.tup [AV.sl 4 (List.take (List.length x23) (List.map c_api_Token x23)),iA (0),iA (0)],[]))
theorem ok_ref01_words {n:Nat} ⦃r:(List (List UInt8))⦄:m_ref01_words n=some r→CN n 93 [] []=some (AV.sl 1 (List.map encS r),[]):=by
 intro h;rcases n with _|n;cases h
 rw [m_ref01_words] at h
 refine callN_eq' Try.func93 (by rfl) rfl rfl (Nat.le_of_ble_eq_true rfl) ?_
 intro call hc;conv=>lhs;whnf
 revert h
 exact rz
theorem ok_ref01_Keyword {n:Nat} ⦃v0_s:(List UInt8)⦄ ⦃r:Bool⦄:m_ref01_Keyword n v0_s=some r→CN n 79 [sA v0_s] []=some (bA r,[]):=by
 intro h;rcases n with _|n;cases h
 rw [m_ref01_Keyword] at h
 refine callN_eq' Try.func79 (by rfl) rfl rfl (Nat.le_of_ble_eq_true rfl) ?_
 intro call hc;conv=>lhs;whnf
 revert h
 refine ca hc (fun _ h=>ok_ref01_words h) ?_;intro y1
 intro h;refine bind_some2 h ?_;clear h;intro o11 ho11 h
 refine lq (σ:=Int) (τ:=Unit) (ν:=Bool) 0 (fun s3 a5=>stOf 18 [(0,sA v0_s),(3,AV.sl 1 (List.map encS y1)),(4,iA s3)]) (fun s3 a5=>[]) (fun _ a15=>stOf 18 []) (fun _ a15=>[]) (fun v=>(bA v,[])) (fun k s=>ref01_Keyword_L0 n v0_s y1 k s) (fun s=>rfl) o11 n 0 (fun _=>0) ho11 ?_ ?_
 intro k4 s3 a5 K6 cont7 hK8 hcont9 h hr10
 replace h:ref01_Keyword_L0 n v0_s y1 (k4+1) s3=some o11:=h
 rw [ref01_Keyword_L0] at h
 conv=>lhs;whnf
 revert h
 refine br ?_ ?_
 refine ix ?_;intro x13
 refine br ?_ ?_
 intro h;cases sj h
 refine (hK8 _ _).trans ?_
 refine Eq.trans ?_ (Eq.symm (show _=some _ from hr10))
 conv=>lhs;whnf
 exact rq
 exact fun h=>cq (hcont9 (IntKind.i64.wrap (s3+1)) (fun _=>0) h)
 intro h;cases sj h
 exact kq (hr10 (fun _=>0))
 refine lrc ?_ ?_
 intro v e;subst e;cases sj h;rfl
 intro t a15 e;subst e
 dsimp only at h
 conv=>lhs;whnf
 revert h
 exact rz
theorem ok_ref01_Name {n:Nat} ⦃v0_s:(List UInt8)⦄ ⦃r:Bool⦄:m_ref01_Name n v0_s=some r→CN n 68 [sA v0_s] []=some (bA r,[]):=by
 intro h;rcases n with _|n;cases h
 rw [m_ref01_Name] at h
 refine callN_eq' Try.func68 (by rfl) rfl rfl (Nat.le_of_ble_eq_true rfl) ?_
 intro call hc;conv=>lhs;whnf
 revert h
 refine br ?_ ?_
 exact rz
 refine br ?_ ?_
 exact rz
 refine ixs ?_;intro x3
 refine ca hc (fun _ h=>ok_ref01_letter h) ?_;intro y4
 refine br ?_ ?_
 refine ca hc (fun _ h=>ok_ref01_Keyword h) ?_;intro y7
 refine br ?_ ?_
 exact rz
 intro h;refine bind_some2 h ?_;clear h;intro o18 ho18 h
 refine lq (σ:=Int) (τ:=Unit) (ν:=Bool) 0 (fun s10 a12=>stOf 40 [(0,sA v0_s),(3,iA s10)]) (fun s10 a12=>[]) (fun _ a28=>stOf 40 []) (fun _ a28=>[]) (fun v=>(bA v,[])) (fun k s=>ref01_Name_L0 n v0_s k s) (fun s=>rfl) o18 n 0 (fun _=>0) ho18 ?_ ?_
 intro k11 s10 a12 K13 cont14 hK15 hcont16 h hr17
 replace h:ref01_Name_L0 n v0_s (k11+1) s10=some o18:=h
 rw [ref01_Name_L0] at h
 conv=>lhs;whnf
 revert h
 refine br ?_ ?_
 refine ixs ?_;intro x20
 refine ca hc (fun _ h=>ok_ref01_letter h) ?_;intro y21
 refine br ?_ ?_
 exact fun h=>cq (hcont16 (IntKind.i64.wrap (s10+1)) (fun _=>0) h)
 refine ixs ?_;intro x24
 refine ca hc (fun _ h=>ok_ref01_digit h) ?_;intro y25
 refine br ?_ ?_
 exact fun h=>cq (hcont16 (IntKind.i64.wrap (s10+1)) (fun _=>0) h)
 intro h;cases sj h
 refine (hK15 _ _).trans ?_
 refine Eq.trans ?_ (Eq.symm (show _=some _ from hr17))
 conv=>lhs;whnf
 exact rq
 intro h;cases sj h
 exact kq (hr17 (fun _=>0))
 refine lrc ?_ ?_
 intro v e;subst e;cases sj h;rfl
 intro t a28 e;subst e
 dsimp only at h
 conv=>lhs;whnf
 revert h
 exact rz
 exact rz
end Go.Proofs.Ytpnhafdimkmbbaa
end
section
namespace Go.Proofs.Ytpnhafdimkmbbaa
set_option linter.unusedVariables false
set_option linter.unusedSimpArgs false
set_option maxRecDepth 100000
set_option maxHeartbeats 4000000
theorem ok_ref02_kids {n:Nat} ⦃v0_op:Int⦄ ⦃r:Int⦄:m_ref02_kids n v0_op=some r→CN n 87 [iA v0_op] []=some (iA r,[]):=by
 intro h;rcases n with _|n;cases h
 rw [m_ref02_kids] at h
 refine callN_eq' Try.func87 (by rfl) rfl rfl (Nat.le_of_ble_eq_true rfl) ?_
 intro call hc;conv=>lhs;whnf
 revert h
 refine br ?_ ?_
 refine br ?_ ?_
 exact rz
 refine br ?_ ?_
 exact rz
 refine br ?_ ?_
 refine br ?_ ?_
 exact rz
 exact rz
 exact rz
 refine br ?_ ?_
 exact rz
 refine br ?_ ?_
 refine br ?_ ?_
 exact rz
 exact rz
 exact rz
theorem ok_ref02_End {n:Nat} ⦃v0_l:(List S_api_Node)⦄ ⦃v1_i:Int⦄ ⦃r:Int⦄:m_ref02_End n v0_l v1_i=some r→CN n 88 [AV.sl 5 (List.map c_api_Node v0_l),iA v1_i] []=some (iA r,[]):=by
 intro h;rcases n with _|n;cases h
 rw [m_ref02_End] at h
 refine callN_eq' Try.func88 (by rfl) rfl rfl (Nat.le_of_ble_eq_true rfl) ?_
 intro call hc;conv=>lhs;whnf
 revert h
 refine br ?_ ?_
 exact rz
 intro h;refine bind_some2 h ?_;clear h;intro o11 ho11 h
 refine lq (σ:=(Int×Int)) (τ:=Unit) (ν:=Int) 0 (fun (s2,s3) a5=>stOf 33 [(0,AV.sl 5 (List.map c_api_Node v0_l)),(5,iA s2),(6,iA s3)]) (fun (s2,s3) a5=>[]) (fun _ a18=>stOf 33 []) (fun _ a18=>[]) (fun v=>(iA v,[])) (fun k s=>ref02_End_L0 n v0_l k s.1 s.2) (fun s=>rfl) o11 n (1,v1_i) (fun _=>0) ho11 ?_ ?_
 intro k4 ss a5 K6 cont7 hK8 hcont9 h hr10
 obtain ⟨s2,s3⟩:=ss
 replace h:ref02_End_L0 n v0_l (k4+1) s2 s3=some o11:=h
 rw [ref02_End_L0] at h
 conv=>lhs;whnf
 revert h
 refine br ?_ ?_
 refine ix ?_;intro x13
 refine ca hc (fun _ h=>ok_ref02_kids h) ?_;intro y14
 refine br ?_ ?_
 intro h;cases sj h
 refine (hK8 _ _).trans ?_
 refine Eq.trans ?_ (Eq.symm (show _=some _ from hr10))
 conv=>lhs;whnf
 exact rq
 refine br ?_ ?_
 intro h;cases sj h
 refine (hK8 _ _).trans ?_
 refine Eq.trans ?_ (Eq.symm (show _=some _ from hr10))
 conv=>lhs;whnf
 exact rq
 exact fun h=>cq (hcont9 (IntKind.i64.wrap ((IntKind.i64.wrap (s2 - 1))+y14),IntKind.i64.wrap (s3+1)) (fun _=>0) h)
 intro h;cases sj h
 exact kq (hr10 (fun _=>0))
 refine lrc ?_ ?_
 intro v e;subst e;cases sj h;rfl
 intro t a18 e;subst e
 dsimp only at h
 conv=>lhs;whnf
 revert h
 exact rz
def OK_ref02_deep (n:Nat):Prop:=∀ ⦃v0_l:(List S_api_Node)⦄ ⦃v1_i:Int⦄ ⦃r:Int⦄,m_ref02_deep n v0_l v1_i=some r→CN n 71 [AV.sl 5 (List.map c_api_Node v0_l),iA v1_i] []=some (iA r,[])
def IH_ref02_deep (n : Nat) : Prop := OK_ref02_deep n
theorem st_ref02_deep (n:Nat) (ih:IH_ref02_deep n):OK_ref02_deep (n+1):=by
 intro v0_l v1_i r h
 rw [m_ref02_deep] at h
 refine callN_eq' Try.func71 (by rfl) rfl rfl (Nat.le_of_ble_eq_true rfl) ?_
 intro call hc;conv=>lhs;whnf
 revert h
 intro h;refine bind_some2 h ?_;clear h;intro o11 ho11 h
 refine lq (σ:=(Int×Int×Int)) (τ:=Int) (ν:=Int) 0 (fun (s1,s2,s3) a5=>stOf 30 [(0,AV.sl 5 (List.map c_api_Node v0_l)),(1,iA v1_i),(5,iA s1),(6,iA s2),(7,iA s3)]) (fun (s1,s2,s3) a5=>[]) (fun x21 a20=>stOf 30 [(5,iA x21)]) (fun x21 a20=>[]) (fun v=>(iA v,[])) (fun k s=>ref02_deep_L0 n (m_ref02_deep n) v0_l v1_i k s.1 s.2.1 s.2.2) (fun s=>rfl) o11 n (0,IntKind.i64.wrap (v1_i+1),0) (fun _=>0) ho11 ?_ ?_
 intro k4 ss a5 K6 cont7 hK8 hcont9 h hr10
 obtain ⟨s1,s2,s3⟩:=ss
 replace h:ref02_deep_L0 n (m_ref02_deep n) v0_l v1_i (k4+1) s1 s2 s3=some o11:=h
 rw [ref02_deep_L0] at h
 conv=>lhs;whnf
 revert h
 refine ix ?_;intro x12
 refine ca hc (fun _ h=>ok_ref02_kids h) ?_;intro y13
 refine br ?_ ?_
 refine ca hc (fun _ h=>ih h) ?_;intro y16
 refine ca hc (fun _ h=>ok_ref02_End h) ?_;intro y18
 exact fun h=>cq (hcont9 ((if s1<(IntKind.i64.wrap (1+y16)) then (IntKind.i64.wrap (1+y16)) else s1),y18,IntKind.i64.wrap (s3+1)) (fun _=>0) h)
 intro h;cases sj h
 exact kq (hr10 (fun _=>0))
 refine lrc ?_ ?_
 intro v e;subst e;cases sj h;rfl
 intro x21 a20 e;subst e
 dsimp only at h
 conv=>lhs;whnf
 revert h
 exact rz
theorem all_ref02_deep : ∀ n, IH_ref02_deep n
  | 0 => by unfold IH_ref02_deep OK_ref02_deep; intros; rename_i h; exact absurd h (by intro h; cases h)
  | n + 1 => have ih := all_ref02_deep n
    st_ref02_deep n ih
theorem ok_ref02_deep {n : Nat} : OK_ref02_deep n := (all_ref02_deep n)
theorem ok_ref02_floors {n:Nat} ⦃r:(List (List Int))⦄:m_ref02_floors n=some r→CN n 86 [] []=some (AV.sl 1 (List.map encRow r),[]):=by
 intro h;rcases n with _|n;cases h
 rw [m_ref02_floors] at h
 refine callN_eq' Try.func86 (by rfl) rfl rfl (Nat.le_of_ble_eq_true rfl) ?_
 intro call hc;conv=>lhs;whnf
 revert h
 exact rz
theorem ok_ref02_Is {n:Nat} ⦃v0_l:(List S_api_Token)⦄ ⦃v1_i:Int⦄ ⦃v2_sign:(List UInt8)⦄ ⦃r:Bool⦄:m_ref02_Is n v0_l v1_i v2_sign=some r→CN n 53 [AV.sl 4 (List.map c_api_Token v0_l),iA v1_i,sA v2_sign] []=some (bA r,[]):=by
 intro h;rcases n with _|n;cases h
 rw [m_ref02_Is] at h
 refine callN_eq' Try.func53 (by rfl) rfl rfl (Nat.le_of_ble_eq_true rfl) ?_
 intro call hc;conv=>lhs;whnf
 revert h
 refine br ?_ ?_
 refine ix ?_;intro x2
 refine br ?_ ?_
 refine ix ?_;intro x4
 exact rz
 exact rz
 exact rz
theorem ok_ref02_Place {n:Nat} ⦃v0_l:(List S_api_Token)⦄ ⦃v1_i:Int⦄ ⦃r:Int⦄:m_ref02_Place n v0_l v1_i=some r→CN n 67 [AV.sl 4 (List.map c_api_Token v0_l),iA v1_i] []=some (iA r,[]):=by
 intro h;rcases n with _|n;cases h
 rw [m_ref02_Place] at h
 refine callN_eq' Try.func67 (by rfl) rfl rfl (Nat.le_of_ble_eq_true rfl) ?_
 intro call hc;conv=>lhs;whnf
 revert h
 refine br ?_ ?_
 refine ix ?_;intro x2
 exact rz
 refine br ?_ ?_
 exact rz
 refine ix ?_;intro x4
 refine ix ?_;intro x5
 exact rz
theorem ok_ref02_fail {n:Nat} ⦃v0_l:(List S_api_Token)⦄ ⦃v1_i:Int⦄ ⦃r:S_ref02_got⦄:m_ref02_fail n v0_l v1_i=some r→CN n 97 [AV.sl 4 (List.map c_api_Token v0_l),iA v1_i] []=some (AV.agg [AV.sl 5 (List.map c_api_Node r.f_l),iA r.f_to,iA r.f_e,iA r.f_at],[]):=by
 intro h;rcases n with _|n;cases h
 rw [m_ref02_fail] at h
 refine callN_eq' Try.func97 (by rfl) rfl rfl (Nat.le_of_ble_eq_true rfl) ?_
 intro call hc;conv=>lhs;whnf
 revert h
 refine br ?_ ?_
 refine ca hc (fun _ h=>ok_ref02_Place h) ?_;intro y2
 exact rz
 refine ca hc (fun _ h=>ok_ref02_Place h) ?_;intro y4
 exact rz
theorem ok_ref02_sign {n:Nat} ⦃v0_op:Int⦄ ⦃r:(List UInt8)⦄:m_ref02_sign n v0_op=some r→CN n 98 [iA v0_op] []=some (sA r,[]):=by
 intro h;rcases n with _|n;cases h
 rw [m_ref02_sign] at h
 refine callN_eq' Try.func98 (by rfl) rfl rfl (Nat.le_of_ble_eq_true rfl) ?_
 intro call hc;conv=>lhs;whnf
 revert h
 intro h
 refine bind_some2 h ?_;clear h;intro x1 hx1 h
 refine bif_pos (by first|exact idx_in hx1|(have q:=idx_in hx1;exact q)) ?_
 simp only [(show nth? ([[sA (([33]:List UInt8))],[sA (([43]:List UInt8))],[sA (([45]:List UInt8))],[sA (([42]:List UInt8))],[sA (([61,61]:List UInt8))],[sA (([33,61]:List UInt8))],[sA (([60]:List UInt8))],[sA (([60,61]:List UInt8))],[sA (([38,38]:List UInt8))],[sA (([124,124]:List UInt8))]]:List (List AV)) (IntKind.i64.wrap (v0_op - 5)).toNat=some (encS x1) from idx_nth (f:=encS) hx1),ls]
 conv=>lhs;whnf
 revert h
 exact rz
theorem ok_ref02_which {n:Nat} ⦃v0_l:(List S_api_Token)⦄ ⦃v1_i:Int⦄ ⦃v2_ops:(List Int)⦄ ⦃r:Int⦄:m_ref02_which n v0_l v1_i v2_ops=some r→CN n 85 [AV.sl 4 (List.map c_api_Token v0_l),iA v1_i,AV.sl 1 (List.map encI v2_ops)] []=some (iA r,[]):=by
 intro h;rcases n with _|n;cases h
 rw [m_ref02_which] at h
 refine callN_eq' Try.func85 (by rfl) rfl rfl (Nat.le_of_ble_eq_true rfl) ?_
 intro call hc;conv=>lhs;whnf
 revert h
 intro h;refine bind_some2 h ?_;clear h;intro o9 ho9 h
 refine lq (σ:=Int) (τ:=Unit) (ν:=Int) 0 (fun s1 a3=>stOf 26 [(0,AV.sl 4 (List.map c_api_Token v0_l)),(1,iA v1_i),(2,AV.sl 1 (List.map encI v2_ops)),(7,iA s1)]) (fun s1 a3=>[]) (fun _ a18=>stOf 26 []) (fun _ a18=>[]) (fun v=>(iA v,[])) (fun k s=>ref02_which_L0 n v0_l v1_i v2_ops k s) (fun s=>rfl) o9 n 0 (fun _=>0) ho9 ?_ ?_
 intro k2 s1 a3 K4 cont5 hK6 hcont7 h hr8
 replace h:ref02_which_L0 n v0_l v1_i v2_ops (k2+1) s1=some o9:=h
 rw [ref02_which_L0] at h
 conv=>lhs;whnf
 revert h
 refine br ?_ ?_
 refine ix ?_;intro x11
 refine ca hc (fun _ h=>ok_ref02_sign h) ?_;intro y12
 refine ca hc (fun _ h=>ok_ref02_Is h) ?_;intro y14
 refine br ?_ ?_
 refine ix ?_;intro x17
 intro h;cases sj h
 refine (hK6 _ _).trans ?_
 refine Eq.trans ?_ (Eq.symm (show _=some _ from hr8))
 conv=>lhs;whnf
 exact rq
 exact fun h=>cq (hcont7 (IntKind.i64.wrap (s1+1)) (fun _=>0) h)
 intro h;cases sj h
 exact kq (hr8 (fun _=>0))
 refine lrc ?_ ?_
 intro v e;subst e;cases sj h;rfl
 intro t a18 e;subst e
 dsimp only at h
 conv=>lhs;whnf
 revert h
 exact rz
def OK_ref02_floor (n:Nat):Prop:=∀ ⦃v0_l:(List S_api_Token)⦄ ⦃v1_i:Int⦄ ⦃v2_in:Int⦄ ⦃v3_n:Int⦄ ⦃r:S_ref02_got⦄,m_ref02_floor n v0_l v1_i v2_in v3_n=some r→CN n 70 [AV.sl 4 (List.map c_api_Token v0_l),iA v1_i,iA v2_in,iA v3_n] []=some (AV.agg [AV.sl 5 (List.map c_api_Node r.f_l),iA r.f_to,iA r.f_e,iA r.f_at],[])
def OK_ref02_prim (n:Nat):Prop:=∀ ⦃v0_l:(List S_api_Token)⦄ ⦃v1_i:Int⦄ ⦃v2_in:Int⦄ ⦃r:S_ref02_got⦄,m_ref02_prim n v0_l v1_i v2_in=some r→CN n 84 [AV.sl 4 (List.map c_api_Token v0_l),iA v1_i,iA v2_in] []=some (AV.agg [AV.sl 5 (List.map c_api_Node r.f_l),iA r.f_to,iA r.f_e,iA r.f_at],[])
def IH_ref02_floor (n : Nat) : Prop := OK_ref02_floor n ∧ OK_ref02_prim n
theorem st_ref02_floor (n:Nat) (ih:IH_ref02_floor n):OK_ref02_floor (n+1):=by
 intro v0_l v1_i v2_in v3_n r h
 rw [m_ref02_floor] at h
 refine callN_eq' Try.func70 (by rfl) rfl rfl (Nat.le_of_ble_eq_true rfl) ?_
 intro call hc;conv=>lhs;whnf
 revert h
 refine br ?_ ?_
 refine ca hc (fun _ h=>ih.2 h) ?_;intro y2
 exact rz
 refine ca hc (fun _ h=>ih.1 h) ?_;intro y4
 intro h;refine bind_some2 h ?_;clear h;intro o17 ho17 h
 refine lq (σ:=((List S_api_Node)×Int×Int×Int)) (τ:=((List S_api_Node)×Int×Int×Int)) (ν:=S_ref02_got) 0 (fun (s6,s7,s8,s9) a11=>stOf 78 [(0,AV.sl 4 (List.map c_api_Token v0_l)),(2,iA v2_in),(3,iA v3_n),(8,AV.ptr 0 0),(9,AV.ptr 1 0)]) (fun (s6,s7,s8,s9) a11=>[Ob.var 107 [AV.nils,iA (0),iA (0),iA (0)],Ob.var 107 [AV.sl 5 (List.map c_api_Node s6),iA s7,iA s8,iA s9]]) (fun (x35,x36,x37,x38) a34=>stOf 78 [(8,AV.ptr 0 0),(9,AV.ptr 1 0)]) (fun (x35,x36,x37,x38) a34=>[Ob.var 107 [AV.nils,iA (0),iA (0),iA (0)],Ob.var 107 [AV.sl 5 (List.map c_api_Node x35),iA x36,iA x37,iA x38]]) (fun v=>(AV.agg [AV.sl 5 (List.map c_api_Node v.f_l),iA v.f_to,iA v.f_e,iA v.f_at],[])) (fun k s=>ref02_floor_L0 n (m_ref02_floor n) v0_l v2_in v3_n k s.1 s.2.1 s.2.2.1 s.2.2.2) (fun s=>rfl) o17 n (y4.f_l,y4.f_to,y4.f_e,y4.f_at) (fun _=>0) ho17 ?_ ?_
 intro k10 ss a11 K12 cont13 hK14 hcont15 h hr16
 obtain ⟨s6,s7,s8,s9⟩:=ss
 replace h:ref02_floor_L0 n (m_ref02_floor n) v0_l v2_in v3_n (k10+1) s6 s7 s8 s9=some o17:=h
 rw [ref02_floor_L0] at h
 conv=>lhs;whnf
 revert h
 refine br ?_ ?_
 refine ca hc (fun _ h=>ok_ref02_floors h) ?_;intro y19
 refine ix ?_;intro x21
 refine ca hc (fun _ h=>ok_ref02_which h) ?_;intro y22
 refine br ?_ ?_
 intro h;cases sj h
 refine (hK14 _ _).trans ?_
 refine Eq.trans ?_ (Eq.symm (show _=some _ from hr16))
 conv=>lhs;whnf
 exact rq
 refine ca hc (fun _ h=>ih.1 h) ?_;intro y25
 refine br ?_ ?_
 intro h;cases sj h
 refine (hK14 _ _).trans ?_
 refine Eq.trans ?_ (Eq.symm (show _=some _ from hr16))
 conv=>lhs;whnf
 exact rq
 refine ix ?_;intro x28
 refine ar (ap c_api_Node ([[iA y22,iA (0),sA (([]:List UInt8)),sA (([]:List UInt8)),iA x28.f_At]]) ([(⟨y22,0,([]:List UInt8),([]:List UInt8),x28.f_At⟩:S_api_Node)]:List S_api_Node) (List.map c_api_Node s6) s6) ?_
 refine ar (ap c_api_Node (List.map c_api_Node (([(⟨y22,0,([]:List UInt8),([]:List UInt8),x28.f_At⟩:S_api_Node)]:List S_api_Node)++s6)) (([(⟨y22,0,([]:List UInt8),([]:List UInt8),x28.f_At⟩:S_api_Node)]:List S_api_Node)++s6) (List.map c_api_Node y25.f_l) y25.f_l) ?_
 refine br ?_ ?_
 intro h;cases sj h
 refine (hK14 _ _).trans ?_
 refine Eq.trans ?_ (Eq.symm (show _=some _ from hr16))
 conv=>lhs;whnf
 try simp only [ls]
 exact fq (y:=some (AV.agg [AV.sl 5 (List.take (List.length (((([(⟨y22,0,([]:List UInt8),([]:List UInt8),x28.f_At⟩:S_api_Node)]:List S_api_Node)++s6)++y25.f_l))) (List.map c_api_Node ((([(⟨y22,0,([]:List UInt8),([]:List UInt8),x28.f_At⟩:S_api_Node)]:List S_api_Node)++s6)++y25.f_l))),iA y25.f_to,iA (0),iA (0)],[]))
 exact fun h=>cq (hcont15 (((([(⟨y22,0,([]:List UInt8),([]:List UInt8),x28.f_At⟩:S_api_Node)]:List S_api_Node)++s6)++y25.f_l),y25.f_to,0,0) (fun _=>0) h)
 intro h;cases sj h
 exact kq (hr16 (fun _=>0))
 refine lrc ?_ ?_
 intro v e;subst e;cases sj h;rfl
 intro t a34 e;subst e
 obtain ⟨x35,x36,x37,x38⟩:=t
 dsimp only at h
 conv=>lhs;whnf
 revert h
 exact rz
theorem st_ref02_prim (n:Nat) (ih:IH_ref02_floor n):OK_ref02_prim (n+1):=by
 intro v0_l v1_i v2_in r h
 rw [m_ref02_prim] at h
 refine callN_eq' Try.func84 (by rfl) rfl rfl (Nat.le_of_ble_eq_true rfl) ?_
 intro call hc;conv=>lhs;whnf
 revert h
 refine br ?_ ?_
 refine ca hc (fun _ h=>ok_ref02_fail h) ?_;intro y2
 exact rz
 refine ix ?_;intro x4
 refine ca hc (fun _ h=>ok_ref02_Is h) ?_;intro y5
 refine br ?_ ?_
 refine br ?_ ?_
 exact rz
 refine ca hc (fun _ h=>ok_ref02_Is h) ?_;intro y9
 refine br ?_ ?_
 refine ca hc (fun _ h=>ih.2 h) ?_;intro y12
 refine br ?_ ?_
 refine ar (ap c_api_Node ([[iA (5),iA (0),sA (([]:List UInt8)),sA (([]:List UInt8)),iA x4.f_At]]) ([(⟨5,0,([]:List UInt8),([]:List UInt8),x4.f_At⟩:S_api_Node)]:List S_api_Node) (List.map c_api_Node y12.f_l) y12.f_l) ?_
 intro h;cases sj h
 try simp only [ls]
 exact fq (y:=some (AV.agg [AV.sl 5 (List.take (List.length ((([(⟨5,0,([]:List UInt8),([]:List UInt8),x4.f_At⟩:S_api_Node)]:List S_api_Node)++y12.f_l))) (List.map c_api_Node (([(⟨5,0,([]:List UInt8),([]:List UInt8),x4.f_At⟩:S_api_Node)]:List S_api_Node)++y12.f_l))),iA y12.f_to,iA y12.f_e,iA y12.f_at],[]))
 exact rz
 refine ca hc (fun _ h=>ok_ref02_Is h) ?_;intro y17
 refine br ?_ ?_
 refine ca hc (fun _ h=>ih.1 h) ?_;intro y20
 refine br ?_ ?_
 refine ca hc (fun _ h=>ok_ref02_Is h) ?_;intro y23
 refine br ?_ ?_
 exact rz
 refine ca hc (fun _ h=>ok_ref02_fail h) ?_;intro y26
 exact rz
 exact rz
 refine br ?_ ?_
 exact rz
 refine br ?_ ?_
 refine ca hc (fun _ h=>ok_ref02_fail h) ?_;intro y30
 exact rz
 refine ca hc (fun _ h=>ok_ref01_Name h) ?_;intro y32
 refine br ?_ ?_
 refine ca hc (fun _ h=>ok_ref02_Is h) ?_;intro y35
 refine br ?_ ?_
 refine br ?_ ?_
 refine ca hc (fun _ h=>ok_ref02_fail h) ?_;intro y39
 exact rz
 refine ix ?_;intro x41
 refine br ?_ ?_
 refine ca hc (fun _ h=>ok_ref02_fail h) ?_;intro y43
 exact rz
 refine ix ?_;intro x45
 refine ca hc (fun _ h=>ok_ref01_Name h) ?_;intro y46
 refine br ?_ ?_
 refine ix ?_;intro x49
 exact rz
 refine ca hc (fun _ h=>ok_ref02_fail h) ?_;intro y50
 exact rz
 exact rz
 refine ca hc (fun _ h=>ok_ref02_fail h) ?_;intro y52
 exact rz
 refine ca hc (fun _ h=>ok_ref02_Is h) ?_;intro y54
 refine br ?_ ?_
 refine br ?_ ?_
 exact rz
 refine ca hc (fun _ h=>ok_ref02_Is h) ?_;intro y58
 refine br ?_ ?_
 refine ca hc (fun _ h=>ih.2 h) ?_;intro y61
 refine br ?_ ?_
 refine ar (ap c_api_Node ([[iA (5),iA (0),sA (([]:List UInt8)),sA (([]:List UInt8)),iA x4.f_At]]) ([(⟨5,0,([]:List UInt8),([]:List UInt8),x4.f_At⟩:S_api_Node)]:List S_api_Node) (List.map c_api_Node y61.f_l) y61.f_l) ?_
 intro h;cases sj h
 try simp only [ls]
 exact fq (y:=some (AV.agg [AV.sl 5 (List.take (List.length ((([(⟨5,0,([]:List UInt8),([]:List UInt8),x4.f_At⟩:S_api_Node)]:List S_api_Node)++y61.f_l))) (List.map c_api_Node (([(⟨5,0,([]:List UInt8),([]:List UInt8),x4.f_At⟩:S_api_Node)]:List S_api_Node)++y61.f_l))),iA y61.f_to,iA y61.f_e,iA y61.f_at],[]))
 exact rz
 refine ca hc (fun _ h=>ok_ref02_Is h) ?_;intro y66
 refine br ?_ ?_
 refine ca hc (fun _ h=>ih.1 h) ?_;intro y69
 refine br ?_ ?_
 refine ca hc (fun _ h=>ok_ref02_Is h) ?_;intro y72
 refine br ?_ ?_
 exact rz
 refine ca hc (fun _ h=>ok_ref02_fail h) ?_;intro y75
 exact rz
 exact rz
 refine br ?_ ?_
 exact rz
 refine br ?_ ?_
 refine ca hc (fun _ h=>ok_ref02_fail h) ?_;intro y79
 exact rz
 refine ca hc (fun _ h=>ok_ref01_Name h) ?_;intro y81
 refine br ?_ ?_
 refine ca hc (fun _ h=>ok_ref02_Is h) ?_;intro y84
 refine br ?_ ?_
 refine br ?_ ?_
 refine ca hc (fun _ h=>ok_ref02_fail h) ?_;intro y88
 exact rz
 refine ix ?_;intro x90
 refine br ?_ ?_
 refine ca hc (fun _ h=>ok_ref02_fail h) ?_;intro y92
 exact rz
 refine ix ?_;intro x94
 refine ca hc (fun _ h=>ok_ref01_Name h) ?_;intro y95
 refine br ?_ ?_
 refine ix ?_;intro x98
 exact rz
 refine ca hc (fun _ h=>ok_ref02_fail h) ?_;intro y99
 exact rz
 exact rz
 refine ca hc (fun _ h=>ok_ref02_fail h) ?_;intro y101
 exact rz
 refine ca hc (fun _ h=>ok_ref02_Is h) ?_;intro y103
 refine br ?_ ?_
 refine ca hc (fun _ h=>ih.2 h) ?_;intro y106
 refine br ?_ ?_
 refine ar (ap c_api_Node ([[iA (5),iA (0),sA (([]:List UInt8)),sA (([]:List UInt8)),iA x4.f_At]]) ([(⟨5,0,([]:List UInt8),([]:List UInt8),x4.f_At⟩:S_api_Node)]:List S_api_Node) (List.map c_api_Node y106.f_l) y106.f_l) ?_
 intro h;cases sj h
 try simp only [ls]
 exact fq (y:=some (AV.agg [AV.sl 5 (List.take (List.length ((([(⟨5,0,([]:List UInt8),([]:List UInt8),x4.f_At⟩:S_api_Node)]:List S_api_Node)++y106.f_l))) (List.map c_api_Node (([(⟨5,0,([]:List UInt8),([]:List UInt8),x4.f_At⟩:S_api_Node)]:List S_api_Node)++y106.f_l))),iA y106.f_to,iA y106.f_e,iA y106.f_at],[]))
 exact rz
 refine ca hc (fun _ h=>ok_ref02_Is h) ?_;intro y111
 refine br ?_ ?_
 refine ca hc (fun _ h=>ih.1 h) ?_;intro y114
 refine br ?_ ?_
 refine ca hc (fun _ h=>ok_ref02_Is h) ?_;intro y117
 refine br ?_ ?_
 exact rz
 refine ca hc (fun _ h=>ok_ref02_fail h) ?_;intro y120
 exact rz
 exact rz
 refine br ?_ ?_
 exact rz
 refine br ?_ ?_
 refine ca hc (fun _ h=>ok_ref02_fail h) ?_;intro y124
 exact rz
 refine ca hc (fun _ h=>ok_ref01_Name h) ?_;intro y126
 refine br ?_ ?_
 refine ca hc (fun _ h=>ok_ref02_Is h) ?_;intro y129
 refine br ?_ ?_
 refine br ?_ ?_
 refine ca hc (fun _ h=>ok_ref02_fail h) ?_;intro y133
 exact rz
 refine ix ?_;intro x135
 refine br ?_ ?_
 refine ca hc (fun _ h=>ok_ref02_fail h) ?_;intro y137
 exact rz
 refine ix ?_;intro x139
 refine ca hc (fun _ h=>ok_ref01_Name h) ?_;intro y140
 refine br ?_ ?_
 refine ix ?_;intro x143
 exact rz
 refine ca hc (fun _ h=>ok_ref02_fail h) ?_;intro y144
 exact rz
 exact rz
 refine ca hc (fun _ h=>ok_ref02_fail h) ?_;intro y146
 exact rz
theorem all_ref02_floor : ∀ n, IH_ref02_floor n
  | 0 => ⟨by unfold OK_ref02_floor; intros; rename_i h; exact absurd h (by intro h; cases h), by unfold OK_ref02_prim; intros; rename_i h; exact absurd h (by intro h; cases h)⟩
  | n + 1 => have ih := all_ref02_floor n
    ⟨st_ref02_floor n ih, st_ref02_prim n ih⟩
theorem ok_ref02_floor {n : Nat} : OK_ref02_floor n := (all_ref02_floor n).1
theorem ok_ref02_Parse {n:Nat} ⦃v0_l:(List S_api_Token)⦄ ⦃v1_i:Int⦄ ⦃r:((List S_api_Node)×Int×Int×Int)⦄:m_ref02_Parse n v0_l v1_i=some r→CN n 58 [AV.sl 4 (List.map c_api_Token v0_l),iA v1_i] []=some (AV.tup [AV.sl 5 (List.map c_api_Node r.1),iA r.2.1,iA r.2.2.1,iA r.2.2.2],[]):=by
 intro h;rcases n with _|n;cases h
 rw [m_ref02_Parse] at h
 refine callN_eq' Try.func58 (by rfl) rfl rfl (Nat.le_of_ble_eq_true rfl) ?_
 intro call hc;conv=>lhs;whnf
 revert h
 refine br ?_ ?_
 exact rz
 refine ca hc (fun _ h=>ok_ref02_floor h) ?_;intro y2
 refine br ?_ ?_
 exact rz
 refine ca hc (fun _ h=>ok_ref02_deep h) ?_;intro y5
 refine br ?_ ?_
 refine ix ?_;intro x8
 exact rz
 refine br ?_ ?_
 refine ix ?_;intro x10
 exact rz
 exact rz
theorem ok_ref02_Names {n:Nat} ⦃v0_l:(List S_api_Node)⦄ ⦃r:(List S_api_Node)⦄:m_ref02_Names n v0_l=some r→CN n 100 [AV.sl 5 (List.map c_api_Node v0_l)] []=some (AV.sl 5 (List.map c_api_Node r),[]):=by
 intro h;rcases n with _|n;cases h
 rw [m_ref02_Names] at h
 refine callN_eq' Try.func100 (by rfl) rfl rfl (Nat.le_of_ble_eq_true rfl) ?_
 intro call hc;conv=>lhs;whnf
 revert h
 intro h;refine bind_some2 h ?_;clear h;intro o10 ho10 h
 refine lq (σ:=(Int×(List S_api_Node))) (τ:=(List S_api_Node)) (ν:=(List S_api_Node)) 0 (fun (s1,s2) a4=>stOf 41 [(0,AV.sl 5 (List.map c_api_Node v0_l)),(3,AV.row 0 (List.length s2)),(4,iA s1)]) (fun (s1,s2) a4=>[Ob.row 59 5 (List.map c_api_Node s2)]) (fun x28 a27=>stOf 41 [(3,AV.row 0 (List.length x28))]) (fun x28 a27=>[Ob.row 59 5 (List.map c_api_Node x28)]) (fun v=>(AV.sl 5 (List.map c_api_Node v),[])) (fun k s=>ref02_Names_L0 n v0_l k s.1 s.2) (fun s=>rfl) o10 n (0,([]:List S_api_Node)) (fun _=>0) ho10 ?_ ?_
 intro k3 ss a4 K5 cont6 hK7 hcont8 h hr9
 obtain ⟨s1,s2⟩:=ss
 replace h:ref02_Names_L0 n v0_l (k3+1) s1 s2=some o10:=h
 rw [ref02_Names_L0] at h
 conv=>lhs;whnf
 revert h
 refine br ?_ ?_
 refine ix ?_;intro x12
 refine br ?_ ?_
 refine ix ?_;intro x14
 refine ar (ap c_api_Node (List.map c_api_Node s2) s2 ([[iA x14.f_Op,iA x14.f_N,sA x14.f_Name,sA x14.f_In,iA x14.f_At]]) ([x14]:List S_api_Node)) ?_
 exact fun h=>cq (hcont8 (IntKind.i64.wrap (s1+1),(s2++([x14]:List S_api_Node))) (fun _=>0) h)
 refine ix ?_;intro x17
 refine br ?_ ?_
 refine ix ?_;intro x19
 refine ar (ap c_api_Node (List.map c_api_Node s2) s2 ([[iA x19.f_Op,iA x19.f_N,sA x19.f_Name,sA x19.f_In,iA x19.f_At]]) ([x19]:List S_api_Node)) ?_
 exact fun h=>cq (hcont8 (IntKind.i64.wrap (s1+1),(s2++([x19]:List S_api_Node))) (fun _=>0) h)
 refine ix ?_;intro x22
 refine br ?_ ?_
 refine ix ?_;intro x24
 refine ar (ap c_api_Node (List.map c_api_Node s2) s2 ([[iA x24.f_Op,iA x24.f_N,sA x24.f_Name,sA x24.f_In,iA x24.f_At]]) ([x24]:List S_api_Node)) ?_
 exact fun h=>cq (hcont8 (IntKind.i64.wrap (s1+1),(s2++([x24]:List S_api_Node))) (fun _=>0) h)
 exact fun h=>cq (hcont8 (IntKind.i64.wrap (s1+1),s2) (fun _=>0) h)
 intro h;cases sj h
 exact kq (hr9 (fun _=>0))
 refine lrc ?_ ?_
 intro v e;subst e;cases sj h;rfl
 intro x28 a27 e;subst e
 dsimp only at h
 conv=>lhs;whnf
 revert h
 intro h;obtain rfl:=sj h
 try simp only [ls]
 exact fq (y:=some (AV.sl 5 (List.take (List.length x28) (List.map c_api_Node x28)),[]))
theorem ok_ref02_node {n:Nat} ⦃v0_x:S_api_Node⦄ ⦃r:Bool⦄:m_ref02_node n v0_x=some r→CN n 102 [AV.agg [iA v0_x.f_Op,iA v0_x.f_N,sA v0_x.f_Name,sA v0_x.f_In,iA v0_x.f_At]] []=some (bA r,[]):=by
 intro h;rcases n with _|n;cases h
 rw [m_ref02_node] at h
 refine callN_eq' Try.func102 (by rfl) rfl rfl (Nat.le_of_ble_eq_true rfl) ?_
 intro call hc;conv=>lhs;whnf
 revert h
 refine br ?_ ?_
 exact rz
 refine br ?_ ?_
 refine br ?_ ?_
 refine br ?_ ?_
 refine br ?_ ?_
 exact rz
 exact rz
 exact rz
 exact rz
 refine br ?_ ?_
 refine br ?_ ?_
 refine ca hc (fun _ h=>ok_ref01_Name h) ?_;intro y8
 refine br ?_ ?_
 exact rz
 exact rz
 exact rz
 refine br ?_ ?_
 refine br ?_ ?_
 refine ca hc (fun _ h=>ok_ref01_Name h) ?_;intro y13
 refine br ?_ ?_
 exact rz
 exact rz
 exact rz
 refine br ?_ ?_
 refine br ?_ ?_
 refine ca hc (fun _ h=>ok_ref01_Name h) ?_;intro y18
 refine br ?_ ?_
 refine ca hc (fun _ h=>ok_ref01_Name h) ?_;intro y21
 exact rz
 exact rz
 exact rz
 refine br ?_ ?_
 refine br ?_ ?_
 exact rz
 exact rz
 exact rz
theorem ok_ref02_Right {n:Nat} ⦃v0_l:(List S_api_Node)⦄ ⦃r:Bool⦄:m_ref02_Right n v0_l=some r→CN n 101 [AV.sl 5 (List.map c_api_Node v0_l)] []=some (bA r,[]):=by
 intro h;rcases n with _|n;cases h
 rw [m_ref02_Right] at h
 refine callN_eq' Try.func101 (by rfl) rfl rfl (Nat.le_of_ble_eq_true rfl) ?_
 intro call hc;conv=>lhs;whnf
 revert h
 refine br ?_ ?_
 exact rz
 refine br ?_ ?_
 exact rz
 refine ca hc (fun _ h=>ok_ref02_End h) ?_;intro y3
 refine br ?_ ?_
 exact rz
 intro h;refine bind_some2 h ?_;clear h;intro o14 ho14 h
 refine lq (σ:=Int) (τ:=Unit) (ν:=Bool) 0 (fun s6 a8=>stOf 34 [(0,AV.sl 5 (List.map c_api_Node v0_l)),(3,iA s6)]) (fun s6 a8=>[]) (fun _ a20=>stOf 34 [(0,AV.sl 5 (List.map c_api_Node v0_l))]) (fun _ a20=>[]) (fun v=>(bA v,[])) (fun k s=>ref02_Right_L0 n v0_l k s) (fun s=>rfl) o14 n 0 (fun _=>0) ho14 ?_ ?_
 intro k7 s6 a8 K9 cont10 hK11 hcont12 h hr13
 replace h:ref02_Right_L0 n v0_l (k7+1) s6=some o14:=h
 rw [ref02_Right_L0] at h
 conv=>lhs;whnf
 revert h
 refine br ?_ ?_
 refine ix ?_;intro x16
 refine ca hc (fun _ h=>ok_ref02_node h) ?_;intro y17
 refine br ?_ ?_
 exact fun h=>cq (hcont12 (IntKind.i64.wrap (s6+1)) (fun _=>0) h)
 intro h;cases sj h
 refine (hK11 _ _).trans ?_
 refine Eq.trans ?_ (Eq.symm (show _=some _ from hr13))
 conv=>lhs;whnf
 exact rq
 intro h;cases sj h
 exact kq (hr13 (fun _=>0))
 refine lrc ?_ ?_
 intro v e;subst e;cases sj h;rfl
 intro t a20 e;subst e
 dsimp only at h
 conv=>lhs;whnf
 revert h
 refine ca hc (fun _ h=>ok_ref02_deep h) ?_;intro y21
 exact rz
theorem ok_ref02_Light {n:Nat} ⦃v0_l:(List S_api_Node)⦄ ⦃r:Bool⦄:m_ref02_Light n v0_l=some r→CN n 13 [AV.sl 5 (List.map c_api_Node v0_l)] []=some (bA r,[]):=by
 intro h;rcases n with _|n;cases h
 rw [m_ref02_Light] at h
 refine callN_eq' Try.func13 (by rfl) rfl rfl (Nat.le_of_ble_eq_true rfl) ?_
 intro call hc;conv=>lhs;whnf
 revert h
 refine br ?_ ?_
 exact rz
 intro h;refine bind_some2 h ?_;clear h;intro o10 ho10 h
 refine lq (σ:=Int) (τ:=Unit) (ν:=Bool) 0 (fun s2 a4=>stOf 29 [(0,AV.sl 5 (List.map c_api_Node v0_l)),(3,iA s2)]) (fun s2 a4=>[]) (fun _ a16=>stOf 29 []) (fun _ a16=>[]) (fun v=>(bA v,[])) (fun k s=>ref02_Light_L0 n v0_l k s) (fun s=>rfl) o10 n 0 (fun _=>0) ho10 ?_ ?_
 intro k3 s2 a4 K5 cont6 hK7 hcont8 h hr9
 replace h:ref02_Light_L0 n v0_l (k3+1) s2=some o10:=h
 rw [ref02_Light_L0] at h
 conv=>lhs;whnf
 revert h
 refine br ?_ ?_
 refine ix ?_;intro x12
 refine br ?_ ?_
 intro h;cases sj h
 refine (hK7 _ _).trans ?_
 refine Eq.trans ?_ (Eq.symm (show _=some _ from hr9))
 conv=>lhs;whnf
 exact rq
 refine ix ?_;intro x14
 refine br ?_ ?_
 intro h;cases sj h
 refine (hK7 _ _).trans ?_
 refine Eq.trans ?_ (Eq.symm (show _=some _ from hr9))
 conv=>lhs;whnf
 exact rq
 exact fun h=>cq (hcont8 (IntKind.i64.wrap (s2+1)) (fun _=>0) h)
 intro h;cases sj h
 exact kq (hr9 (fun _=>0))
 refine lrc ?_ ?_
 intro v e;subst e;cases sj h;rfl
 intro t a16 e;subst e
 dsimp only at h
 conv=>lhs;whnf
 revert h
 exact rz
end Go.Proofs.Ytpnhafdimkmbbaa
end
section
namespace Go.Proofs.Ytpnhafdimkmbbaa
set_option linter.unusedVariables false
set_option linter.unusedSimpArgs false
set_option maxRecDepth 100000
set_option maxHeartbeats 4000000
theorem ok_ref03_Wrong {n:Nat} ⦃v0_l:(List S_api_Token)⦄ ⦃v1_i:Int⦄ ⦃r:(Int×Int)⦄:m_ref03_Wrong n v0_l v1_i=some r→CN n 52 [AV.sl 4 (List.map c_api_Token v0_l),iA v1_i] []=some (AV.tup [iA r.1,iA r.2],[]):=by
 intro h;rcases n with _|n;cases h
 rw [m_ref03_Wrong] at h
 refine callN_eq' Try.func52 (by rfl) rfl rfl (Nat.le_of_ble_eq_true rfl) ?_
 intro call hc;conv=>lhs;whnf
 revert h
 refine br ?_ ?_
 refine ca hc (fun _ h=>ok_ref02_Place h) ?_;intro y2
 exact rz
 refine ca hc (fun _ h=>ok_ref02_Place h) ?_;intro y4
 exact rz
theorem ok_ref03_Name {n:Nat} ⦃v0_l:(List S_api_Token)⦄ ⦃v1_i:Int⦄ ⦃r:Bool⦄:m_ref03_Name n v0_l v1_i=some r→CN n 54 [AV.sl 4 (List.map c_api_Token v0_l),iA v1_i] []=some (bA r,[]):=by
 intro h;rcases n with _|n;cases h
 rw [m_ref03_Name] at h
 refine callN_eq' Try.func54 (by rfl) rfl rfl (Nat.le_of_ble_eq_true rfl) ?_
 intro call hc;conv=>lhs;whnf
 revert h
 refine br ?_ ?_
 refine ix ?_;intro x2
 refine br ?_ ?_
 refine ix ?_;intro x4
 refine ca hc (fun _ h=>ok_ref01_Name h) ?_;intro y5
 exact rz
 exact rz
 exact rz
theorem ok_ref03_block {n:Nat} ⦃v0_kind:Int⦄ ⦃r:Bool⦄:m_ref03_block n v0_kind=some r→CN n 82 [iA v0_kind] []=some (bA r,[]):=by
 intro h;rcases n with _|n;cases h
 rw [m_ref03_block] at h
 refine callN_eq' Try.func82 (by rfl) rfl rfl (Nat.le_of_ble_eq_true rfl) ?_
 intro call hc;conv=>lhs;whnf
 revert h
 refine br ?_ ?_
 exact rz
 refine br ?_ ?_
 exact rz
 exact rz
theorem ok_ref03_form {n:Nat} ⦃v0_kind:Int⦄ ⦃r:(List UInt8)⦄:m_ref03_form n v0_kind=some r→CN n 95 [iA v0_kind] []=some (sA r,[]):=by
 intro h;rcases n with _|n;cases h
 rw [m_ref03_form] at h
 refine callN_eq' Try.func95 (by rfl) rfl rfl (Nat.le_of_ble_eq_true rfl) ?_
 intro call hc;conv=>lhs;whnf
 revert h
 refine br ?_ ?_
 exact rz
 refine br ?_ ?_
 exact rz
 refine br ?_ ?_
 exact rz
 refine br ?_ ?_
 exact rz
 refine br ?_ ?_
 exact rz
 refine br ?_ ?_
 exact rz
 refine br ?_ ?_
 exact rz
 refine br ?_ ?_
 exact rz
 refine br ?_ ?_
 exact rz
 refine br ?_ ?_
 exact rz
 exact rz
theorem ok_ref03_Plain {n:Nat} ⦃v0_l:(List S_api_Node)⦄ ⦃r:Bool⦄:m_ref03_Plain n v0_l=some r→CN n 99 [AV.sl 5 (List.map c_api_Node v0_l)] []=some (bA r,[]):=by
 intro h;rcases n with _|n;cases h
 rw [m_ref03_Plain] at h
 refine callN_eq' Try.func99 (by rfl) rfl rfl (Nat.le_of_ble_eq_true rfl) ?_
 intro call hc;conv=>lhs;whnf
 revert h
 refine ca hc (fun _ h=>ok_ref02_Names h) ?_;intro y1
 intro h;refine bind_some2 h ?_;clear h;intro o11 ho11 h
 refine lq (σ:=Int) (τ:=Unit) (ν:=Bool) 0 (fun s3 a5=>stOf 21 [(0,AV.sl 5 (List.map c_api_Node v0_l)),(3,AV.sl 5 (List.map c_api_Node y1)),(4,iA s3)]) (fun s3 a5=>[]) (fun _ a15=>stOf 21 [(0,AV.sl 5 (List.map c_api_Node v0_l))]) (fun _ a15=>[]) (fun v=>(bA v,[])) (fun k s=>ref03_Plain_L0 n y1 k s) (fun s=>rfl) o11 n 0 (fun _=>0) ho11 ?_ ?_
 intro k4 s3 a5 K6 cont7 hK8 hcont9 h hr10
 replace h:ref03_Plain_L0 n y1 (k4+1) s3=some o11:=h
 rw [ref03_Plain_L0] at h
 conv=>lhs;whnf
 revert h
 refine br ?_ ?_
 refine ix ?_;intro x13
 refine br ?_ ?_
 intro h;cases sj h
 refine (hK8 _ _).trans ?_
 refine Eq.trans ?_ (Eq.symm (show _=some _ from hr10))
 conv=>lhs;whnf
 exact rq
 exact fun h=>cq (hcont9 (IntKind.i64.wrap (s3+1)) (fun _=>0) h)
 intro h;cases sj h
 exact kq (hr10 (fun _=>0))
 refine lrc ?_ ?_
 intro v e;subst e;cases sj h;rfl
 intro t a15 e;subst e
 dsimp only at h
 conv=>lhs;whnf
 revert h
 refine ca hc (fun _ h=>ok_ref02_Right h) ?_;intro y16
 exact rz
theorem ok_ref03_plain {n:Nat} ⦃v0_l:(List S_api_Token)⦄ ⦃v1_i:Int⦄ ⦃r:((List S_api_Node)×Int×Int×Int)⦄:m_ref03_plain n v0_l v1_i=some r→CN n 96 [AV.sl 4 (List.map c_api_Token v0_l),iA v1_i] []=some (AV.tup [AV.sl 5 (List.map c_api_Node r.1),iA r.2.1,iA r.2.2.1,iA r.2.2.2],[]):=by
 intro h;rcases n with _|n;cases h
 rw [m_ref03_plain] at h
 refine callN_eq' Try.func96 (by rfl) rfl rfl (Nat.le_of_ble_eq_true rfl) ?_
 intro call hc;conv=>lhs;whnf
 revert h
 refine ca hc (fun _ h=>ok_ref02_Parse h) ?_;intro y1
 refine br ?_ ?_
 exact rz
 refine ca hc (fun _ h=>ok_ref03_Plain h) ?_;intro y4
 refine br ?_ ?_
 exact rz
 refine ix ?_;intro x7
 exact rz
theorem ok_ref03_fields {n:Nat} ⦃v0_l:(List S_api_Token)⦄ ⦃v1_i:Int⦄ ⦃v2_x:S_api_Stmt⦄ ⦃r:(S_api_Stmt×Int×Int×Int)⦄:m_ref03_fields n v0_l v1_i v2_x=some r→CN n 81 [AV.sl 4 (List.map c_api_Token v0_l),iA v1_i,AV.agg [iA v2_x.f_Kind,sA v2_x.f_Reg,sA v2_x.f_Loc,AV.sl 5 (List.map c_api_Node v2_x.f_E),AV.sl 5 (List.map c_api_Node v2_x.f_F),bA v2_x.f_Ne,iA v2_x.f_Body,iA v2_x.f_Else,iA v2_x.f_At]] []=some (AV.tup [AV.agg [iA r.1.f_Kind,sA r.1.f_Reg,sA r.1.f_Loc,AV.sl 5 (List.map c_api_Node r.1.f_E),AV.sl 5 (List.map c_api_Node r.1.f_F),bA r.1.f_Ne,iA r.1.f_Body,iA r.1.f_Else,iA r.1.f_At],iA r.2.1,iA r.2.2.1,iA r.2.2.2],[]):=by
 intro h;rcases n with _|n;cases h
 rw [m_ref03_fields] at h
 refine callN_eq' Try.func81 (by rfl) rfl rfl (Nat.le_of_ble_eq_true rfl) ?_
 intro call hc;conv=>lhs;whnf
 revert h
 refine ca hc (fun _ h=>ok_ref03_form h) ?_;intro y1
 intro h;refine bind_some2 h ?_;clear h;intro o17 ho17 h
 refine lq (σ:=(Int×Int×(List UInt8)×(List UInt8)×(List S_api_Node)×(List S_api_Node)×Bool)) (τ:=(Int×(List UInt8)×(List UInt8)×(List S_api_Node)×(List S_api_Node)×Bool)) (ν:=(S_api_Stmt×Int×Int×Int)) 0 (fun (s3,s4,s5,s6,s7,s8,s9) a11=>stOf 157 [(0,AV.sl 4 (List.map c_api_Token v0_l)),(1,iA s3),(5,AV.ptr 0 0),(6,AV.ptr 1 0),(10,sA y1),(11,iA s4)]) (fun (s3,s4,s5,s6,s7,s8,s9) a11=>[Ob.var 57 [iA v2_x.f_Kind,sA s5,sA s6,AV.sl 5 (List.map c_api_Node s7),AV.sl 5 (List.map c_api_Node s8),bA s9,iA v2_x.f_Body,iA v2_x.f_Else,iA v2_x.f_At],Ob.var 57 [iA (0),sA (([]:List UInt8)),sA (([]:List UInt8)),AV.nils,AV.nils,bA false,iA (0),iA (0),iA (0)]]) (fun (x72,x73,x74,x75,x76,x77) a71=>stOf 157 [(1,iA x72),(5,AV.ptr 0 0),(6,AV.ptr 1 0)]) (fun (x72,x73,x74,x75,x76,x77) a71=>[Ob.var 57 [iA v2_x.f_Kind,sA x73,sA x74,AV.sl 5 (List.map c_api_Node x75),AV.sl 5 (List.map c_api_Node x76),bA x77,iA v2_x.f_Body,iA v2_x.f_Else,iA v2_x.f_At],Ob.var 57 [iA (0),sA (([]:List UInt8)),sA (([]:List UInt8)),AV.nils,AV.nils,bA false,iA (0),iA (0),iA (0)]]) (fun v=>(AV.tup [AV.agg [iA v.1.f_Kind,sA v.1.f_Reg,sA v.1.f_Loc,AV.sl 5 (List.map c_api_Node v.1.f_E),AV.sl 5 (List.map c_api_Node v.1.f_F),bA v.1.f_Ne,iA v.1.f_Body,iA v.1.f_Else,iA v.1.f_At],iA v.2.1,iA v.2.2.1,iA v.2.2.2],[])) (fun k s=>ref03_fields_L0 n v0_l v2_x y1 k s.1 s.2.1 s.2.2.1 s.2.2.2.1 s.2.2.2.2.1 s.2.2.2.2.2.1 s.2.2.2.2.2.2) (fun s=>rfl) o17 n (v1_i,0,v2_x.f_Reg,v2_x.f_Loc,v2_x.f_E,v2_x.f_F,v2_x.f_Ne) (fun _=>0) ho17 ?_ ?_
 intro k10 ss a11 K12 cont13 hK14 hcont15 h hr16
 obtain ⟨s3,s4,s5,s6,s7,s8,s9⟩:=ss
 replace h:ref03_fields_L0 n v0_l v2_x y1 (k10+1) s3 s4 s5 s6 s7 s8 s9=some o17:=h
 rw [ref03_fields_L0] at h
 conv=>lhs;whnf
 revert h
 refine br ?_ ?_
 refine ixs ?_;intro x19
 refine br ?_ ?_
 refine ca hc (fun _ h=>ok_ref03_Name h) ?_;intro y21
 refine br ?_ ?_
 refine ixs ?_;intro x24
 refine br ?_ ?_
 refine ix ?_;intro x26
 exact fun h=>cq (hcont15 (IntKind.i64.wrap (s3+1),IntKind.i64.wrap (s4+1),x26.f_Text,s6,s7,s8,s9) (fun _=>0) h)
 refine ix ?_;intro x27
 exact fun h=>cq (hcont15 (IntKind.i64.wrap (s3+1),IntKind.i64.wrap (s4+1),s5,x27.f_Text,s7,s8,s9) (fun _=>0) h)
 refine ca hc (fun _ h=>ok_ref03_Wrong h) ?_;intro y28
 intro h;cases sj h
 refine (hK14 _ _).trans ?_
 refine Eq.trans ?_ (Eq.symm (show _=some _ from hr16))
 conv=>lhs;whnf
 exact rq
 refine ixs ?_;intro x30
 refine br ?_ ?_
 refine ca hc (fun _ h=>ok_ref03_Name h) ?_;intro y32
 refine br ?_ ?_
 refine ixs ?_;intro x35
 refine br ?_ ?_
 refine ix ?_;intro x37
 exact fun h=>cq (hcont15 (IntKind.i64.wrap (s3+1),IntKind.i64.wrap (s4+1),x37.f_Text,s6,s7,s8,s9) (fun _=>0) h)
 refine ix ?_;intro x38
 exact fun h=>cq (hcont15 (IntKind.i64.wrap (s3+1),IntKind.i64.wrap (s4+1),s5,x38.f_Text,s7,s8,s9) (fun _=>0) h)
 refine ca hc (fun _ h=>ok_ref03_Wrong h) ?_;intro y39
 intro h;cases sj h
 refine (hK14 _ _).trans ?_
 refine Eq.trans ?_ (Eq.symm (show _=some _ from hr16))
 conv=>lhs;whnf
 exact rq
 refine ixs ?_;intro x41
 refine br ?_ ?_
 refine ca hc (fun _ h=>ok_ref03_plain h) ?_;intro y43
 refine br ?_ ?_
 intro h;cases sj h
 refine (hK14 _ _).trans ?_
 refine Eq.trans ?_ (Eq.symm (show _=some _ from hr16))
 conv=>lhs;whnf
 exact rq
 refine ixs ?_;intro x46
 refine br ?_ ?_
 exact fun h=>cq (hcont15 (y43.2.1,IntKind.i64.wrap (s4+1),s5,s6,y43.1,s8,s9) (fun _=>0) h)
 exact fun h=>cq (hcont15 (y43.2.1,IntKind.i64.wrap (s4+1),s5,s6,s7,y43.1,s9) (fun _=>0) h)
 refine ixs ?_;intro x48
 refine br ?_ ?_
 refine ca hc (fun _ h=>ok_ref03_plain h) ?_;intro y50
 refine br ?_ ?_
 intro h;cases sj h
 refine (hK14 _ _).trans ?_
 refine Eq.trans ?_ (Eq.symm (show _=some _ from hr16))
 conv=>lhs;whnf
 exact rq
 refine ixs ?_;intro x53
 refine br ?_ ?_
 exact fun h=>cq (hcont15 (y50.2.1,IntKind.i64.wrap (s4+1),s5,s6,y50.1,s8,s9) (fun _=>0) h)
 exact fun h=>cq (hcont15 (y50.2.1,IntKind.i64.wrap (s4+1),s5,s6,s7,y50.1,s9) (fun _=>0) h)
 refine ixs ?_;intro x55
 refine br ?_ ?_
 refine ca hc (fun _ h=>ok_ref02_Is h) ?_;intro y57
 refine br ?_ ?_
 exact fun h=>cq (hcont15 (IntKind.i64.wrap (s3+1),IntKind.i64.wrap (s4+1),s5,s6,s7,s8,true) (fun _=>0) h)
 refine ca hc (fun _ h=>ok_ref02_Is h) ?_;intro y60
 refine br ?_ ?_
 exact fun h=>cq (hcont15 (IntKind.i64.wrap (s3+1),IntKind.i64.wrap (s4+1),s5,s6,s7,s8,false) (fun _=>0) h)
 refine ca hc (fun _ h=>ok_ref03_Wrong h) ?_;intro y63
 intro h;cases sj h
 refine (hK14 _ _).trans ?_
 refine Eq.trans ?_ (Eq.symm (show _=some _ from hr16))
 conv=>lhs;whnf
 exact rq
 refine cp ?_
 refine cr hc (fun _ h=>ok_ref02_Is h) ?_;intro y66
 refine br ?_ ?_
 exact fun h=>cq (hcont15 (IntKind.i64.wrap (s3+1),IntKind.i64.wrap (s4+1),s5,s6,s7,s8,s9) (fun _=>0) h)
 refine ca hc (fun _ h=>ok_ref03_Wrong h) ?_;intro y69
 intro h;cases sj h
 refine (hK14 _ _).trans ?_
 refine Eq.trans ?_ (Eq.symm (show _=some _ from hr16))
 conv=>lhs;whnf
 exact rq
 intro h;cases sj h
 exact kq (hr16 (fun _=>0))
 refine lrc ?_ ?_
 intro v e;subst e;cases sj h;rfl
 intro t a71 e;subst e
 obtain ⟨x72,x73,x74,x75,x76,x77⟩:=t
 dsimp only at h
 conv=>lhs;whnf
 revert h
 exact rz
theorem ok_ref03_words {n:Nat} ⦃r:(List (List UInt8))⦄:m_ref03_words n=some r→CN n 94 [] []=some (AV.sl 1 (List.map encS r),[]):=by
 intro h;rcases n with _|n;cases h
 rw [m_ref03_words] at h
 refine callN_eq' Try.func94 (by rfl) rfl rfl (Nat.le_of_ble_eq_true rfl) ?_
 intro call hc;conv=>lhs;whnf
 revert h
 exact rz
theorem ok_ref03_kind {n:Nat} ⦃v0_l:(List S_api_Token)⦄ ⦃v1_i:Int⦄ ⦃r:Int⦄:m_ref03_kind n v0_l v1_i=some r→CN n 80 [AV.sl 4 (List.map c_api_Token v0_l),iA v1_i] []=some (iA r,[]):=by
 intro h;rcases n with _|n;cases h
 rw [m_ref03_kind] at h
 refine callN_eq' Try.func80 (by rfl) rfl rfl (Nat.le_of_ble_eq_true rfl) ?_
 intro call hc;conv=>lhs;whnf
 revert h
 intro h;refine bind_some2 h ?_;clear h;intro o9 ho9 h
 refine lq (σ:=Int) (τ:=Unit) (ν:=Int) 0 (fun s1 a3=>stOf 37 [(0,AV.sl 4 (List.map c_api_Token v0_l)),(1,iA v1_i),(5,iA s1)]) (fun s1 a3=>[]) (fun _ a21=>stOf 37 []) (fun _ a21=>[]) (fun v=>(iA v,[])) (fun k s=>ref03_kind_L0 n v0_l v1_i k s) (fun s=>rfl) o9 n 1 (fun _=>0) ho9 ?_ ?_
 intro k2 s1 a3 K4 cont5 hK6 hcont7 h hr8
 replace h:ref03_kind_L0 n v0_l v1_i (k2+1) s1=some o9:=h
 rw [ref03_kind_L0] at h
 conv=>lhs;whnf
 revert h
 refine ca hc (fun _ h=>ok_ref03_words h) ?_;intro y10
 refine br ?_ ?_
 refine br ?_ ?_
 refine ix ?_;intro x14
 refine br ?_ ?_
 refine ix ?_;intro x16
 refine ca hc (fun _ h=>ok_ref03_words h) ?_;intro y17
 refine ix ?_;intro x19
 refine br ?_ ?_
 intro h;cases sj h
 refine (hK6 _ _).trans ?_
 refine Eq.trans ?_ (Eq.symm (show _=some _ from hr8))
 conv=>lhs;whnf
 exact rq
 exact fun h=>cq (hcont7 (IntKind.i64.wrap (s1+1)) (fun _=>0) h)
 exact fun h=>cq (hcont7 (IntKind.i64.wrap (s1+1)) (fun _=>0) h)
 intro h;cases sj h
 exact kq (hr8 (fun _=>0))
 intro h;cases sj h
 exact kq (hr8 (fun _=>0))
 refine lrc ?_ ?_
 intro v e;subst e;cases sj h;rfl
 intro t a21 e;subst e
 dsimp only at h
 conv=>lhs;whnf
 revert h
 exact rz
def OK_ref03_braced (n:Nat):Prop:=∀ ⦃v0_l:(List S_api_Token)⦄ ⦃v1_i:Int⦄ ⦃v2_in:Int⦄ ⦃r:((List S_api_Stmt)×Int×Int×Int)⦄,m_ref03_braced n v0_l v1_i v2_in=some r→CN n 83 [AV.sl 4 (List.map c_api_Token v0_l),iA v1_i,iA v2_in] []=some (AV.tup [AV.sl 9 (List.map c_api_Stmt r.1),iA r.2.1,iA r.2.2.1,iA r.2.2.2],[])
def OK_ref03_list (n:Nat):Prop:=∀ ⦃v0_l:(List S_api_Token)⦄ ⦃v1_i:Int⦄ ⦃v2_in:Int⦄ ⦃r:((List S_api_Stmt)×Int×Int×Int)⦄,m_ref03_list n v0_l v1_i v2_in=some r→CN n 69 [AV.sl 4 (List.map c_api_Token v0_l),iA v1_i,iA v2_in] []=some (AV.tup [AV.sl 9 (List.map c_api_Stmt r.1),iA r.2.1,iA r.2.2.1,iA r.2.2.2],[])
def IH_ref03_braced (n : Nat) : Prop := OK_ref03_braced n ∧ OK_ref03_list n
theorem st_ref03_braced (n:Nat) (ih:IH_ref03_braced n):OK_ref03_braced (n+1):=by
 intro v0_l v1_i v2_in r h
 rw [m_ref03_braced] at h
 refine callN_eq' Try.func83 (by rfl) rfl rfl (Nat.le_of_ble_eq_true rfl) ?_
 intro call hc;conv=>lhs;whnf
 revert h
 refine ca hc (fun _ h=>ok_ref02_Is h) ?_;intro y1
 refine br ?_ ?_
 refine br ?_ ?_
 refine ix ?_;intro x5
 exact rz
 refine ca hc (fun _ h=>ih.2 h) ?_;intro y6
 refine br ?_ ?_
 exact rz
 refine ca hc (fun _ h=>ok_ref02_Is h) ?_;intro y9
 refine br ?_ ?_
 exact rz
 refine ca hc (fun _ h=>ok_ref03_Wrong h) ?_;intro y12
 exact rz
 refine ca hc (fun _ h=>ok_ref03_Wrong h) ?_;intro y14
 exact rz
theorem st_ref03_list (n:Nat) (ih:IH_ref03_braced n):OK_ref03_list (n+1):=by
 intro v0_l v1_i v2_in r h
 rw [m_ref03_list] at h
 refine callN_eq' Try.func69 (by rfl) rfl rfl (Nat.le_of_ble_eq_true rfl) ?_
 intro call hc;conv=>lhs;whnf
 revert h
 intro h;refine bind_some2 h ?_;clear h;intro o10 ho10 h
 refine lq (σ:=(Int×(List S_api_Stmt))) (τ:=(Int×(List S_api_Stmt))) (ν:=((List S_api_Stmt)×Int×Int×Int)) 0 (fun (s1,s2) a4=>stOf 142 [(0,AV.sl 4 (List.map c_api_Token v0_l)),(1,iA s1),(2,iA v2_in),(10,AV.row 0 (List.length s2))]) (fun (s1,s2) a4=>[Ob.row 57 9 (List.map c_api_Stmt s2)]) (fun (x121,x122) a120=>stOf 142 [(1,iA x121),(10,AV.row 0 (List.length x122))]) (fun (x121,x122) a120=>[Ob.row 57 9 (List.map c_api_Stmt x122)]) (fun v=>(AV.tup [AV.sl 9 (List.map c_api_Stmt v.1),iA v.2.1,iA v.2.2.1,iA v.2.2.2],[])) (fun k s=>ref03_list_L0 n (m_ref03_braced n) v0_l v2_in k s.1 s.2) (fun s=>rfl) o10 n (v1_i,([]:List S_api_Stmt)) (fun _=>0) ho10 ?_ ?_
 intro k3 ss a4 K5 cont6 hK7 hcont8 h hr9
 obtain ⟨s1,s2⟩:=ss
 replace h:ref03_list_L0 n (m_ref03_braced n) v0_l v2_in (k3+1) s1 s2=some o10:=h
 rw [ref03_list_L0] at h
 conv=>lhs;whnf
 revert h
 refine br ?_ ?_
 refine ca hc (fun _ h=>ok_ref02_Is h) ?_;intro y12
 refine br ?_ ?_
 intro h;cases sj h
 exact kq (hr9 (fun _=>0))
 refine ca hc (fun _ h=>ok_ref03_kind h) ?_;intro y15
 refine br ?_ ?_
 refine ix ?_;intro x18
 intro h;cases sj h
 refine (hK7 _ _).trans ?_
 refine Eq.trans ?_ (Eq.symm (show _=some _ from hr9))
 conv=>lhs;whnf
 exact rq
 refine ix ?_;intro x19
 refine cr hc (fun y20 h=>(show CN n 81 [AV.sl 4 (List.map c_api_Token v0_l),iA (IntKind.i64.wrap (s1+1)),AV.agg [iA y15,sA (([]:List UInt8)),sA (([]:List UInt8)),AV.sl 5 [],AV.sl 5 [],bA false,iA (0),iA (0),iA x19.f_At]] []=some (AV.tup [AV.agg [iA y20.1.f_Kind,sA y20.1.f_Reg,sA y20.1.f_Loc,AV.sl 5 (List.map c_api_Node y20.1.f_E),AV.sl 5 (List.map c_api_Node y20.1.f_F),bA y20.1.f_Ne,iA y20.1.f_Body,iA y20.1.f_Else,iA y20.1.f_At],iA y20.2.1,iA y20.2.2.1,iA y20.2.2.2],[]) from ok_ref03_fields (r:=y20) h)) ?_;intro y20
 refine br ?_ ?_
 intro h;cases sj h
 refine (hK7 _ _).trans ?_
 refine Eq.trans ?_ (Eq.symm (show _=some _ from hr9))
 conv=>lhs;whnf
 exact rq
 refine ca hc (fun _ h=>ok_ref03_block h) ?_;intro y23
 refine br ?_ ?_
 refine ca hc (fun _ h=>ih.1 h) ?_;intro y26
 refine br ?_ ?_
 intro h;cases sj h
 refine (hK7 _ _).trans ?_
 refine Eq.trans ?_ (Eq.symm (show _=some _ from hr9))
 conv=>lhs;whnf
 exact rq
 refine br ?_ ?_
 refine br ?_ ?_
 refine ix ?_;intro x31
 refine br ?_ ?_
 refine ix ?_;intro x33
 refine br ?_ ?_
 refine ca hc (fun _ h=>ih.1 h) ?_;intro y35
 refine br ?_ ?_
 intro h;cases sj h
 refine (hK7 _ _).trans ?_
 refine Eq.trans ?_ (Eq.symm (show _=some _ from hr9))
 conv=>lhs;whnf
 exact rq
 refine ar (ap c_api_Stmt (List.map c_api_Stmt s2) s2 ([[iA y20.1.f_Kind,sA y20.1.f_Reg,sA y20.1.f_Loc,AV.sl 5 (List.map c_api_Node y20.1.f_E),AV.sl 5 (List.map c_api_Node y20.1.f_F),bA y20.1.f_Ne,iA (((y26.1.length:Nat):Int)),iA (((y35.1.length:Nat):Int)),iA y20.1.f_At]]) ([(⟨y20.1.f_Kind,y20.1.f_Reg,y20.1.f_Loc,y20.1.f_E,y20.1.f_F,y20.1.f_Ne,((y26.1.length:Nat):Int),((y35.1.length:Nat):Int),y20.1.f_At⟩:S_api_Stmt)]:List S_api_Stmt)) ?_
 refine ar (ap c_api_Stmt (List.map c_api_Stmt (s2++([(⟨y20.1.f_Kind,y20.1.f_Reg,y20.1.f_Loc,y20.1.f_E,y20.1.f_F,y20.1.f_Ne,((y26.1.length:Nat):Int),((y35.1.length:Nat):Int),y20.1.f_At⟩:S_api_Stmt)]:List S_api_Stmt))) (s2++([(⟨y20.1.f_Kind,y20.1.f_Reg,y20.1.f_Loc,y20.1.f_E,y20.1.f_F,y20.1.f_Ne,((y26.1.length:Nat):Int),((y35.1.length:Nat):Int),y20.1.f_At⟩:S_api_Stmt)]:List S_api_Stmt)) (List.map c_api_Stmt y26.1) y26.1) ?_
 refine ar (ap c_api_Stmt (List.map c_api_Stmt ((s2++([(⟨y20.1.f_Kind,y20.1.f_Reg,y20.1.f_Loc,y20.1.f_E,y20.1.f_F,y20.1.f_Ne,((y26.1.length:Nat):Int),((y35.1.length:Nat):Int),y20.1.f_At⟩:S_api_Stmt)]:List S_api_Stmt))++y26.1)) ((s2++([(⟨y20.1.f_Kind,y20.1.f_Reg,y20.1.f_Loc,y20.1.f_E,y20.1.f_F,y20.1.f_Ne,((y26.1.length:Nat):Int),((y35.1.length:Nat):Int),y20.1.f_At⟩:S_api_Stmt)]:List S_api_Stmt))++y26.1) (List.map c_api_Stmt y35.1) y35.1) ?_
 exact fun h=>cq (hcont8 (y35.2.1,(((s2++([(⟨y20.1.f_Kind,y20.1.f_Reg,y20.1.f_Loc,y20.1.f_E,y20.1.f_F,y20.1.f_Ne,((y26.1.length:Nat):Int),((y35.1.length:Nat):Int),y20.1.f_At⟩:S_api_Stmt)]:List S_api_Stmt))++y26.1)++y35.1)) (fun _=>0) h)
 refine ar (ap c_api_Stmt (List.map c_api_Stmt s2) s2 ([[iA y20.1.f_Kind,sA y20.1.f_Reg,sA y20.1.f_Loc,AV.sl 5 (List.map c_api_Node y20.1.f_E),AV.sl 5 (List.map c_api_Node y20.1.f_F),bA y20.1.f_Ne,iA (((y26.1.length:Nat):Int)),iA (0),iA y20.1.f_At]]) ([(⟨y20.1.f_Kind,y20.1.f_Reg,y20.1.f_Loc,y20.1.f_E,y20.1.f_F,y20.1.f_Ne,((y26.1.length:Nat):Int),0,y20.1.f_At⟩:S_api_Stmt)]:List S_api_Stmt)) ?_
 refine ar (ap c_api_Stmt (List.map c_api_Stmt (s2++([(⟨y20.1.f_Kind,y20.1.f_Reg,y20.1.f_Loc,y20.1.f_E,y20.1.f_F,y20.1.f_Ne,((y26.1.length:Nat):Int),0,y20.1.f_At⟩:S_api_Stmt)]:List S_api_Stmt))) (s2++([(⟨y20.1.f_Kind,y20.1.f_Reg,y20.1.f_Loc,y20.1.f_E,y20.1.f_F,y20.1.f_Ne,((y26.1.length:Nat):Int),0,y20.1.f_At⟩:S_api_Stmt)]:List S_api_Stmt)) (List.map c_api_Stmt y26.1) y26.1) ?_
 intro h
 refine chk_some2 h ?_;clear h;intro hc50 h
 first|refine bif_pos (app_row hc50 (by first|rfl|simp only [List.length_map]) (by first|rfl|simp only [List.length_map]) (by first|rfl|simp only [List.length_map,take_map_len]) (by kernel_rfl)) ?_|refine bif_pos (app_row2 hc50 (by first|rfl|simp only [List.length_map]) (by first|rfl|simp only [List.length_map,take_map_len]) (by kernel_rfl)) ?_
 have hp48:(List.map c_api_Stmt ((s2++([(⟨y20.1.f_Kind,y20.1.f_Reg,y20.1.f_Loc,y20.1.f_E,y20.1.f_F,y20.1.f_Ne,((y26.1.length:Nat):Int),0,y20.1.f_At⟩:S_api_Stmt)]:List S_api_Stmt))++y26.1):List (List AV))++([]:List (List AV))=(List.map c_api_Stmt ((s2++([(⟨y20.1.f_Kind,y20.1.f_Reg,y20.1.f_Loc,y20.1.f_E,y20.1.f_F,y20.1.f_Ne,((y26.1.length:Nat):Int),0,y20.1.f_At⟩:S_api_Stmt)]:List S_api_Stmt))++y26.1):List (List AV)):=List.append_nil _
 have hl49:List.length (List.map c_api_Stmt ((s2++([(⟨y20.1.f_Kind,y20.1.f_Reg,y20.1.f_Loc,y20.1.f_E,y20.1.f_F,y20.1.f_Ne,((y26.1.length:Nat):Int),0,y20.1.f_At⟩:S_api_Stmt)]:List S_api_Stmt))++y26.1):List (List AV))+List.length ([]:List (List AV))=List.length (List.map c_api_Stmt ((s2++([(⟨y20.1.f_Kind,y20.1.f_Reg,y20.1.f_Loc,y20.1.f_E,y20.1.f_F,y20.1.f_Ne,((y26.1.length:Nat):Int),0,y20.1.f_At⟩:S_api_Stmt)]:List S_api_Stmt))++y26.1):List (List AV)):=rfl
 have hl49_b:List.length ((s2++([(⟨y20.1.f_Kind,y20.1.f_Reg,y20.1.f_Loc,y20.1.f_E,y20.1.f_F,y20.1.f_Ne,((y26.1.length:Nat):Int),0,y20.1.f_At⟩:S_api_Stmt)]:List S_api_Stmt))++y26.1)+List.length ([]:List (List AV))=List.length ((s2++([(⟨y20.1.f_Kind,y20.1.f_Reg,y20.1.f_Loc,y20.1.f_E,y20.1.f_F,y20.1.f_Ne,((y26.1.length:Nat):Int),0,y20.1.f_At⟩:S_api_Stmt)]:List S_api_Stmt))++y26.1):=rfl
 try simp only [ls,c0]
 try simp only [hp48,hl49,hl49_b]
 try simp only [ls]
 conv=>lhs;whnf
 revert h
 exact fun h=>cq (hcont8 (y26.2.1,((s2++([(⟨y20.1.f_Kind,y20.1.f_Reg,y20.1.f_Loc,y20.1.f_E,y20.1.f_F,y20.1.f_Ne,((y26.1.length:Nat):Int),0,y20.1.f_At⟩:S_api_Stmt)]:List S_api_Stmt))++y26.1)) (fun _=>0) h)
 refine ar (ap c_api_Stmt (List.map c_api_Stmt s2) s2 ([[iA y20.1.f_Kind,sA y20.1.f_Reg,sA y20.1.f_Loc,AV.sl 5 (List.map c_api_Node y20.1.f_E),AV.sl 5 (List.map c_api_Node y20.1.f_F),bA y20.1.f_Ne,iA (((y26.1.length:Nat):Int)),iA (0),iA y20.1.f_At]]) ([(⟨y20.1.f_Kind,y20.1.f_Reg,y20.1.f_Loc,y20.1.f_E,y20.1.f_F,y20.1.f_Ne,((y26.1.length:Nat):Int),0,y20.1.f_At⟩:S_api_Stmt)]:List S_api_Stmt)) ?_
 refine ar (ap c_api_Stmt (List.map c_api_Stmt (s2++([(⟨y20.1.f_Kind,y20.1.f_Reg,y20.1.f_Loc,y20.1.f_E,y20.1.f_F,y20.1.f_Ne,((y26.1.length:Nat):Int),0,y20.1.f_At⟩:S_api_Stmt)]:List S_api_Stmt))) (s2++([(⟨y20.1.f_Kind,y20.1.f_Reg,y20.1.f_Loc,y20.1.f_E,y20.1.f_F,y20.1.f_Ne,((y26.1.length:Nat):Int),0,y20.1.f_At⟩:S_api_Stmt)]:List S_api_Stmt)) (List.map c_api_Stmt y26.1) y26.1) ?_
 intro h
 refine chk_some2 h ?_;clear h;intro hc57 h
 first|refine bif_pos (app_row hc57 (by first|rfl|simp only [List.length_map]) (by first|rfl|simp only [List.length_map]) (by first|rfl|simp only [List.length_map,take_map_len]) (by kernel_rfl)) ?_|refine bif_pos (app_row2 hc57 (by first|rfl|simp only [List.length_map]) (by first|rfl|simp only [List.length_map,take_map_len]) (by kernel_rfl)) ?_
 have hp55:(List.map c_api_Stmt ((s2++([(⟨y20.1.f_Kind,y20.1.f_Reg,y20.1.f_Loc,y20.1.f_E,y20.1.f_F,y20.1.f_Ne,((y26.1.length:Nat):Int),0,y20.1.f_At⟩:S_api_Stmt)]:List S_api_Stmt))++y26.1):List (List AV))++([]:List (List AV))=(List.map c_api_Stmt ((s2++([(⟨y20.1.f_Kind,y20.1.f_Reg,y20.1.f_Loc,y20.1.f_E,y20.1.f_F,y20.1.f_Ne,((y26.1.length:Nat):Int),0,y20.1.f_At⟩:S_api_Stmt)]:List S_api_Stmt))++y26.1):List (List AV)):=List.append_nil _
 have hl56:List.length (List.map c_api_Stmt ((s2++([(⟨y20.1.f_Kind,y20.1.f_Reg,y20.1.f_Loc,y20.1.f_E,y20.1.f_F,y20.1.f_Ne,((y26.1.length:Nat):Int),0,y20.1.f_At⟩:S_api_Stmt)]:List S_api_Stmt))++y26.1):List (List AV))+List.length ([]:List (List AV))=List.length (List.map c_api_Stmt ((s2++([(⟨y20.1.f_Kind,y20.1.f_Reg,y20.1.f_Loc,y20.1.f_E,y20.1.f_F,y20.1.f_Ne,((y26.1.length:Nat):Int),0,y20.1.f_At⟩:S_api_Stmt)]:List S_api_Stmt))++y26.1):List (List AV)):=rfl
 have hl56_b:List.length ((s2++([(⟨y20.1.f_Kind,y20.1.f_Reg,y20.1.f_Loc,y20.1.f_E,y20.1.f_F,y20.1.f_Ne,((y26.1.length:Nat):Int),0,y20.1.f_At⟩:S_api_Stmt)]:List S_api_Stmt))++y26.1)+List.length ([]:List (List AV))=List.length ((s2++([(⟨y20.1.f_Kind,y20.1.f_Reg,y20.1.f_Loc,y20.1.f_E,y20.1.f_F,y20.1.f_Ne,((y26.1.length:Nat):Int),0,y20.1.f_At⟩:S_api_Stmt)]:List S_api_Stmt))++y26.1):=rfl
 try simp only [ls,c0]
 try simp only [hp55,hl56,hl56_b]
 try simp only [ls]
 conv=>lhs;whnf
 revert h
 exact fun h=>cq (hcont8 (y26.2.1,((s2++([(⟨y20.1.f_Kind,y20.1.f_Reg,y20.1.f_Loc,y20.1.f_E,y20.1.f_F,y20.1.f_Ne,((y26.1.length:Nat):Int),0,y20.1.f_At⟩:S_api_Stmt)]:List S_api_Stmt))++y26.1)) (fun _=>0) h)
 refine ar (ap c_api_Stmt (List.map c_api_Stmt s2) s2 ([[iA y20.1.f_Kind,sA y20.1.f_Reg,sA y20.1.f_Loc,AV.sl 5 (List.map c_api_Node y20.1.f_E),AV.sl 5 (List.map c_api_Node y20.1.f_F),bA y20.1.f_Ne,iA (((y26.1.length:Nat):Int)),iA (0),iA y20.1.f_At]]) ([(⟨y20.1.f_Kind,y20.1.f_Reg,y20.1.f_Loc,y20.1.f_E,y20.1.f_F,y20.1.f_Ne,((y26.1.length:Nat):Int),0,y20.1.f_At⟩:S_api_Stmt)]:List S_api_Stmt)) ?_
 refine ar (ap c_api_Stmt (List.map c_api_Stmt (s2++([(⟨y20.1.f_Kind,y20.1.f_Reg,y20.1.f_Loc,y20.1.f_E,y20.1.f_F,y20.1.f_Ne,((y26.1.length:Nat):Int),0,y20.1.f_At⟩:S_api_Stmt)]:List S_api_Stmt))) (s2++([(⟨y20.1.f_Kind,y20.1.f_Reg,y20.1.f_Loc,y20.1.f_E,y20.1.f_F,y20.1.f_Ne,((y26.1.length:Nat):Int),0,y20.1.f_At⟩:S_api_Stmt)]:List S_api_Stmt)) (List.map c_api_Stmt y26.1) y26.1) ?_
 intro h
 refine chk_some2 h ?_;clear h;intro hc64 h
 first|refine bif_pos (app_row hc64 (by first|rfl|simp only [List.length_map]) (by first|rfl|simp only [List.length_map]) (by first|rfl|simp only [List.length_map,take_map_len]) (by kernel_rfl)) ?_|refine bif_pos (app_row2 hc64 (by first|rfl|simp only [List.length_map]) (by first|rfl|simp only [List.length_map,take_map_len]) (by kernel_rfl)) ?_
 have hp62:(List.map c_api_Stmt ((s2++([(⟨y20.1.f_Kind,y20.1.f_Reg,y20.1.f_Loc,y20.1.f_E,y20.1.f_F,y20.1.f_Ne,((y26.1.length:Nat):Int),0,y20.1.f_At⟩:S_api_Stmt)]:List S_api_Stmt))++y26.1):List (List AV))++([]:List (List AV))=(List.map c_api_Stmt ((s2++([(⟨y20.1.f_Kind,y20.1.f_Reg,y20.1.f_Loc,y20.1.f_E,y20.1.f_F,y20.1.f_Ne,((y26.1.length:Nat):Int),0,y20.1.f_At⟩:S_api_Stmt)]:List S_api_Stmt))++y26.1):List (List AV)):=List.append_nil _
 have hl63:List.length (List.map c_api_Stmt ((s2++([(⟨y20.1.f_Kind,y20.1.f_Reg,y20.1.f_Loc,y20.1.f_E,y20.1.f_F,y20.1.f_Ne,((y26.1.length:Nat):Int),0,y20.1.f_At⟩:S_api_Stmt)]:List S_api_Stmt))++y26.1):List (List AV))+List.length ([]:List (List AV))=List.length (List.map c_api_Stmt ((s2++([(⟨y20.1.f_Kind,y20.1.f_Reg,y20.1.f_Loc,y20.1.f_E,y20.1.f_F,y20.1.f_Ne,((y26.1.length:Nat):Int),0,y20.1.f_At⟩:S_api_Stmt)]:List S_api_Stmt))++y26.1):List (List AV)):=rfl
 have hl63_b:List.length ((s2++([(⟨y20.1.f_Kind,y20.1.f_Reg,y20.1.f_Loc,y20.1.f_E,y20.1.f_F,y20.1.f_Ne,((y26.1.length:Nat):Int),0,y20.1.f_At⟩:S_api_Stmt)]:List S_api_Stmt))++y26.1)+List.length ([]:List (List AV))=List.length ((s2++([(⟨y20.1.f_Kind,y20.1.f_Reg,y20.1.f_Loc,y20.1.f_E,y20.1.f_F,y20.1.f_Ne,((y26.1.length:Nat):Int),0,y20.1.f_At⟩:S_api_Stmt)]:List S_api_Stmt))++y26.1):=rfl
 try simp only [ls,c0]
 try simp only [hp62,hl63,hl63_b]
 try simp only [ls]
 conv=>lhs;whnf
 revert h
 exact fun h=>cq (hcont8 (y26.2.1,((s2++([(⟨y20.1.f_Kind,y20.1.f_Reg,y20.1.f_Loc,y20.1.f_E,y20.1.f_F,y20.1.f_Ne,((y26.1.length:Nat):Int),0,y20.1.f_At⟩:S_api_Stmt)]:List S_api_Stmt))++y26.1)) (fun _=>0) h)
 refine ar (ap c_api_Stmt (List.map c_api_Stmt s2) s2 ([[iA y20.1.f_Kind,sA y20.1.f_Reg,sA y20.1.f_Loc,AV.sl 5 (List.map c_api_Node y20.1.f_E),AV.sl 5 (List.map c_api_Node y20.1.f_F),bA y20.1.f_Ne,iA (((y26.1.length:Nat):Int)),iA (0),iA y20.1.f_At]]) ([(⟨y20.1.f_Kind,y20.1.f_Reg,y20.1.f_Loc,y20.1.f_E,y20.1.f_F,y20.1.f_Ne,((y26.1.length:Nat):Int),0,y20.1.f_At⟩:S_api_Stmt)]:List S_api_Stmt)) ?_
 refine ar (ap c_api_Stmt (List.map c_api_Stmt (s2++([(⟨y20.1.f_Kind,y20.1.f_Reg,y20.1.f_Loc,y20.1.f_E,y20.1.f_F,y20.1.f_Ne,((y26.1.length:Nat):Int),0,y20.1.f_At⟩:S_api_Stmt)]:List S_api_Stmt))) (s2++([(⟨y20.1.f_Kind,y20.1.f_Reg,y20.1.f_Loc,y20.1.f_E,y20.1.f_F,y20.1.f_Ne,((y26.1.length:Nat):Int),0,y20.1.f_At⟩:S_api_Stmt)]:List S_api_Stmt)) (List.map c_api_Stmt y26.1) y26.1) ?_
 intro h
 refine chk_some2 h ?_;clear h;intro hc71 h
 first|refine bif_pos (app_row hc71 (by first|rfl|simp only [List.length_map]) (by first|rfl|simp only [List.length_map]) (by first|rfl|simp only [List.length_map,take_map_len]) (by kernel_rfl)) ?_|refine bif_pos (app_row2 hc71 (by first|rfl|simp only [List.length_map]) (by first|rfl|simp only [List.length_map,take_map_len]) (by kernel_rfl)) ?_
 have hp69:(List.map c_api_Stmt ((s2++([(⟨y20.1.f_Kind,y20.1.f_Reg,y20.1.f_Loc,y20.1.f_E,y20.1.f_F,y20.1.f_Ne,((y26.1.length:Nat):Int),0,y20.1.f_At⟩:S_api_Stmt)]:List S_api_Stmt))++y26.1):List (List AV))++([]:List (List AV))=(List.map c_api_Stmt ((s2++([(⟨y20.1.f_Kind,y20.1.f_Reg,y20.1.f_Loc,y20.1.f_E,y20.1.f_F,y20.1.f_Ne,((y26.1.length:Nat):Int),0,y20.1.f_At⟩:S_api_Stmt)]:List S_api_Stmt))++y26.1):List (List AV)):=List.append_nil _
 have hl70:List.length (List.map c_api_Stmt ((s2++([(⟨y20.1.f_Kind,y20.1.f_Reg,y20.1.f_Loc,y20.1.f_E,y20.1.f_F,y20.1.f_Ne,((y26.1.length:Nat):Int),0,y20.1.f_At⟩:S_api_Stmt)]:List S_api_Stmt))++y26.1):List (List AV))+List.length ([]:List (List AV))=List.length (List.map c_api_Stmt ((s2++([(⟨y20.1.f_Kind,y20.1.f_Reg,y20.1.f_Loc,y20.1.f_E,y20.1.f_F,y20.1.f_Ne,((y26.1.length:Nat):Int),0,y20.1.f_At⟩:S_api_Stmt)]:List S_api_Stmt))++y26.1):List (List AV)):=rfl
 have hl70_b:List.length ((s2++([(⟨y20.1.f_Kind,y20.1.f_Reg,y20.1.f_Loc,y20.1.f_E,y20.1.f_F,y20.1.f_Ne,((y26.1.length:Nat):Int),0,y20.1.f_At⟩:S_api_Stmt)]:List S_api_Stmt))++y26.1)+List.length ([]:List (List AV))=List.length ((s2++([(⟨y20.1.f_Kind,y20.1.f_Reg,y20.1.f_Loc,y20.1.f_E,y20.1.f_F,y20.1.f_Ne,((y26.1.length:Nat):Int),0,y20.1.f_At⟩:S_api_Stmt)]:List S_api_Stmt))++y26.1):=rfl
 try simp only [ls,c0]
 try simp only [hp69,hl70,hl70_b]
 try simp only [ls]
 conv=>lhs;whnf
 revert h
 exact fun h=>cq (hcont8 (y26.2.1,((s2++([(⟨y20.1.f_Kind,y20.1.f_Reg,y20.1.f_Loc,y20.1.f_E,y20.1.f_F,y20.1.f_Ne,((y26.1.length:Nat):Int),0,y20.1.f_At⟩:S_api_Stmt)]:List S_api_Stmt))++y26.1)) (fun _=>0) h)
 refine br ?_ ?_
 refine br ?_ ?_
 refine ix ?_;intro x74
 refine br ?_ ?_
 refine ix ?_;intro x76
 refine br ?_ ?_
 refine ca hc (fun _ h=>ih.1 h) ?_;intro y78
 refine br ?_ ?_
 intro h;cases sj h
 refine (hK7 _ _).trans ?_
 refine Eq.trans ?_ (Eq.symm (show _=some _ from hr9))
 conv=>lhs;whnf
 exact rq
 refine ar (ap c_api_Stmt (List.map c_api_Stmt s2) s2 ([[iA y20.1.f_Kind,sA y20.1.f_Reg,sA y20.1.f_Loc,AV.sl 5 (List.map c_api_Node y20.1.f_E),AV.sl 5 (List.map c_api_Node y20.1.f_F),bA y20.1.f_Ne,iA (0),iA (((y78.1.length:Nat):Int)),iA y20.1.f_At]]) ([(⟨y20.1.f_Kind,y20.1.f_Reg,y20.1.f_Loc,y20.1.f_E,y20.1.f_F,y20.1.f_Ne,0,((y78.1.length:Nat):Int),y20.1.f_At⟩:S_api_Stmt)]:List S_api_Stmt)) ?_
 intro h
 refine chk_some2 h ?_;clear h;intro hc85 h
 first|refine bif_pos (app_row hc85 (by first|rfl|simp only [List.length_map]) (by first|rfl|simp only [List.length_map]) (by first|rfl|simp only [List.length_map,take_map_len]) (by kernel_rfl)) ?_|refine bif_pos (app_row2 hc85 (by first|rfl|simp only [List.length_map]) (by first|rfl|simp only [List.length_map,take_map_len]) (by kernel_rfl)) ?_
 have hp83:(List.map c_api_Stmt (s2++([(⟨y20.1.f_Kind,y20.1.f_Reg,y20.1.f_Loc,y20.1.f_E,y20.1.f_F,y20.1.f_Ne,0,((y78.1.length:Nat):Int),y20.1.f_At⟩:S_api_Stmt)]:List S_api_Stmt)):List (List AV))++([]:List (List AV))=(List.map c_api_Stmt (s2++([(⟨y20.1.f_Kind,y20.1.f_Reg,y20.1.f_Loc,y20.1.f_E,y20.1.f_F,y20.1.f_Ne,0,((y78.1.length:Nat):Int),y20.1.f_At⟩:S_api_Stmt)]:List S_api_Stmt)):List (List AV)):=List.append_nil _
 have hl84:List.length (List.map c_api_Stmt (s2++([(⟨y20.1.f_Kind,y20.1.f_Reg,y20.1.f_Loc,y20.1.f_E,y20.1.f_F,y20.1.f_Ne,0,((y78.1.length:Nat):Int),y20.1.f_At⟩:S_api_Stmt)]:List S_api_Stmt)):List (List AV))+List.length ([]:List (List AV))=List.length (List.map c_api_Stmt (s2++([(⟨y20.1.f_Kind,y20.1.f_Reg,y20.1.f_Loc,y20.1.f_E,y20.1.f_F,y20.1.f_Ne,0,((y78.1.length:Nat):Int),y20.1.f_At⟩:S_api_Stmt)]:List S_api_Stmt)):List (List AV)):=rfl
 have hl84_b:List.length (s2++([(⟨y20.1.f_Kind,y20.1.f_Reg,y20.1.f_Loc,y20.1.f_E,y20.1.f_F,y20.1.f_Ne,0,((y78.1.length:Nat):Int),y20.1.f_At⟩:S_api_Stmt)]:List S_api_Stmt))+List.length ([]:List (List AV))=List.length (s2++([(⟨y20.1.f_Kind,y20.1.f_Reg,y20.1.f_Loc,y20.1.f_E,y20.1.f_F,y20.1.f_Ne,0,((y78.1.length:Nat):Int),y20.1.f_At⟩:S_api_Stmt)]:List S_api_Stmt)):=rfl
 try simp only [ls,c0]
 try simp only [hp83,hl84,hl84_b]
 try simp only [ls]
 conv=>lhs;whnf
 revert h
 refine ar (ap c_api_Stmt (List.map c_api_Stmt (s2++([(⟨y20.1.f_Kind,y20.1.f_Reg,y20.1.f_Loc,y20.1.f_E,y20.1.f_F,y20.1.f_Ne,0,((y78.1.length:Nat):Int),y20.1.f_At⟩:S_api_Stmt)]:List S_api_Stmt))) (s2++([(⟨y20.1.f_Kind,y20.1.f_Reg,y20.1.f_Loc,y20.1.f_E,y20.1.f_F,y20.1.f_Ne,0,((y78.1.length:Nat):Int),y20.1.f_At⟩:S_api_Stmt)]:List S_api_Stmt)) (List.map c_api_Stmt y78.1) y78.1) ?_
 exact fun h=>cq (hcont8 (y78.2.1,((s2++([(⟨y20.1.f_Kind,y20.1.f_Reg,y20.1.f_Loc,y20.1.f_E,y20.1.f_F,y20.1.f_Ne,0,((y78.1.length:Nat):Int),y20.1.f_At⟩:S_api_Stmt)]:List S_api_Stmt))++y78.1)) (fun _=>0) h)
 refine ar (ap c_api_Stmt (List.map c_api_Stmt s2) s2 ([[iA y20.1.f_Kind,sA y20.1.f_Reg,sA y20.1.f_Loc,AV.sl 5 (List.map c_api_Node y20.1.f_E),AV.sl 5 (List.map c_api_Node y20.1.f_F),bA y20.1.f_Ne,iA (0),iA (0),iA y20.1.f_At]]) ([(⟨y20.1.f_Kind,y20.1.f_Reg,y20.1.f_Loc,y20.1.f_E,y20.1.f_F,y20.1.f_Ne,0,0,y20.1.f_At⟩:S_api_Stmt)]:List S_api_Stmt)) ?_
 intro h
 refine chk_some2 h ?_;clear h;intro hc92 h
 first|refine bif_pos (app_row hc92 (by first|rfl|simp only [List.length_map]) (by first|rfl|simp only [List.length_map]) (by first|rfl|simp only [List.length_map,take_map_len]) (by kernel_rfl)) ?_|refine bif_pos (app_row2 hc92 (by first|rfl|simp only [List.length_map]) (by first|rfl|simp only [List.length_map,take_map_len]) (by kernel_rfl)) ?_
 have hp90:(List.map c_api_Stmt (s2++([(⟨y20.1.f_Kind,y20.1.f_Reg,y20.1.f_Loc,y20.1.f_E,y20.1.f_F,y20.1.f_Ne,0,0,y20.1.f_At⟩:S_api_Stmt)]:List S_api_Stmt)):List (List AV))++([]:List (List AV))=(List.map c_api_Stmt (s2++([(⟨y20.1.f_Kind,y20.1.f_Reg,y20.1.f_Loc,y20.1.f_E,y20.1.f_F,y20.1.f_Ne,0,0,y20.1.f_At⟩:S_api_Stmt)]:List S_api_Stmt)):List (List AV)):=List.append_nil _
 have hl91:List.length (List.map c_api_Stmt (s2++([(⟨y20.1.f_Kind,y20.1.f_Reg,y20.1.f_Loc,y20.1.f_E,y20.1.f_F,y20.1.f_Ne,0,0,y20.1.f_At⟩:S_api_Stmt)]:List S_api_Stmt)):List (List AV))+List.length ([]:List (List AV))=List.length (List.map c_api_Stmt (s2++([(⟨y20.1.f_Kind,y20.1.f_Reg,y20.1.f_Loc,y20.1.f_E,y20.1.f_F,y20.1.f_Ne,0,0,y20.1.f_At⟩:S_api_Stmt)]:List S_api_Stmt)):List (List AV)):=rfl
 have hl91_b:List.length (s2++([(⟨y20.1.f_Kind,y20.1.f_Reg,y20.1.f_Loc,y20.1.f_E,y20.1.f_F,y20.1.f_Ne,0,0,y20.1.f_At⟩:S_api_Stmt)]:List S_api_Stmt))+List.length ([]:List (List AV))=List.length (s2++([(⟨y20.1.f_Kind,y20.1.f_Reg,y20.1.f_Loc,y20.1.f_E,y20.1.f_F,y20.1.f_Ne,0,0,y20.1.f_At⟩:S_api_Stmt)]:List S_api_Stmt)):=rfl
 try simp only [ls,c0]
 try simp only [hp90,hl91,hl91_b]
 try simp only [ls]
 conv=>lhs;whnf
 revert h
 intro h
 refine chk_some2 h ?_;clear h;intro hc95 h
 first|refine bif_pos (app_row hc95 (by first|rfl|simp only [List.length_map]) (by first|rfl|simp only [List.length_map]) (by first|rfl|simp only [List.length_map,take_map_len]) (by kernel_rfl)) ?_|refine bif_pos (app_row2 hc95 (by first|rfl|simp only [List.length_map]) (by first|rfl|simp only [List.length_map,take_map_len]) (by kernel_rfl)) ?_
 have hp93:(List.map c_api_Stmt (s2++([(⟨y20.1.f_Kind,y20.1.f_Reg,y20.1.f_Loc,y20.1.f_E,y20.1.f_F,y20.1.f_Ne,0,0,y20.1.f_At⟩:S_api_Stmt)]:List S_api_Stmt)):List (List AV))++([]:List (List AV))=(List.map c_api_Stmt (s2++([(⟨y20.1.f_Kind,y20.1.f_Reg,y20.1.f_Loc,y20.1.f_E,y20.1.f_F,y20.1.f_Ne,0,0,y20.1.f_At⟩:S_api_Stmt)]:List S_api_Stmt)):List (List AV)):=List.append_nil _
 have hl94:List.length (List.map c_api_Stmt (s2++([(⟨y20.1.f_Kind,y20.1.f_Reg,y20.1.f_Loc,y20.1.f_E,y20.1.f_F,y20.1.f_Ne,0,0,y20.1.f_At⟩:S_api_Stmt)]:List S_api_Stmt)):List (List AV))+List.length ([]:List (List AV))=List.length (List.map c_api_Stmt (s2++([(⟨y20.1.f_Kind,y20.1.f_Reg,y20.1.f_Loc,y20.1.f_E,y20.1.f_F,y20.1.f_Ne,0,0,y20.1.f_At⟩:S_api_Stmt)]:List S_api_Stmt)):List (List AV)):=rfl
 have hl94_b:List.length (s2++([(⟨y20.1.f_Kind,y20.1.f_Reg,y20.1.f_Loc,y20.1.f_E,y20.1.f_F,y20.1.f_Ne,0,0,y20.1.f_At⟩:S_api_Stmt)]:List S_api_Stmt))+List.length ([]:List (List AV))=List.length (s2++([(⟨y20.1.f_Kind,y20.1.f_Reg,y20.1.f_Loc,y20.1.f_E,y20.1.f_F,y20.1.f_Ne,0,0,y20.1.f_At⟩:S_api_Stmt)]:List S_api_Stmt)):=rfl
 try simp only [ls,c0]
 try simp only [hp93,hl94,hl94_b]
 try simp only [ls]
 conv=>lhs;whnf
 revert h
 exact fun h=>cq (hcont8 (y20.2.1,(s2++([(⟨y20.1.f_Kind,y20.1.f_Reg,y20.1.f_Loc,y20.1.f_E,y20.1.f_F,y20.1.f_Ne,0,0,y20.1.f_At⟩:S_api_Stmt)]:List S_api_Stmt))) (fun _=>0) h)
 refine ar (ap c_api_Stmt (List.map c_api_Stmt s2) s2 ([[iA y20.1.f_Kind,sA y20.1.f_Reg,sA y20.1.f_Loc,AV.sl 5 (List.map c_api_Node y20.1.f_E),AV.sl 5 (List.map c_api_Node y20.1.f_F),bA y20.1.f_Ne,iA (0),iA (0),iA y20.1.f_At]]) ([(⟨y20.1.f_Kind,y20.1.f_Reg,y20.1.f_Loc,y20.1.f_E,y20.1.f_F,y20.1.f_Ne,0,0,y20.1.f_At⟩:S_api_Stmt)]:List S_api_Stmt)) ?_
 intro h
 refine chk_some2 h ?_;clear h;intro hc100 h
 first|refine bif_pos (app_row hc100 (by first|rfl|simp only [List.length_map]) (by first|rfl|simp only [List.length_map]) (by first|rfl|simp only [List.length_map,take_map_len]) (by kernel_rfl)) ?_|refine bif_pos (app_row2 hc100 (by first|rfl|simp only [List.length_map]) (by first|rfl|simp only [List.length_map,take_map_len]) (by kernel_rfl)) ?_
 have hp98:(List.map c_api_Stmt (s2++([(⟨y20.1.f_Kind,y20.1.f_Reg,y20.1.f_Loc,y20.1.f_E,y20.1.f_F,y20.1.f_Ne,0,0,y20.1.f_At⟩:S_api_Stmt)]:List S_api_Stmt)):List (List AV))++([]:List (List AV))=(List.map c_api_Stmt (s2++([(⟨y20.1.f_Kind,y20.1.f_Reg,y20.1.f_Loc,y20.1.f_E,y20.1.f_F,y20.1.f_Ne,0,0,y20.1.f_At⟩:S_api_Stmt)]:List S_api_Stmt)):List (List AV)):=List.append_nil _
 have hl99:List.length (List.map c_api_Stmt (s2++([(⟨y20.1.f_Kind,y20.1.f_Reg,y20.1.f_Loc,y20.1.f_E,y20.1.f_F,y20.1.f_Ne,0,0,y20.1.f_At⟩:S_api_Stmt)]:List S_api_Stmt)):List (List AV))+List.length ([]:List (List AV))=List.length (List.map c_api_Stmt (s2++([(⟨y20.1.f_Kind,y20.1.f_Reg,y20.1.f_Loc,y20.1.f_E,y20.1.f_F,y20.1.f_Ne,0,0,y20.1.f_At⟩:S_api_Stmt)]:List S_api_Stmt)):List (List AV)):=rfl
 have hl99_b:List.length (s2++([(⟨y20.1.f_Kind,y20.1.f_Reg,y20.1.f_Loc,y20.1.f_E,y20.1.f_F,y20.1.f_Ne,0,0,y20.1.f_At⟩:S_api_Stmt)]:List S_api_Stmt))+List.length ([]:List (List AV))=List.length (s2++([(⟨y20.1.f_Kind,y20.1.f_Reg,y20.1.f_Loc,y20.1.f_E,y20.1.f_F,y20.1.f_Ne,0,0,y20.1.f_At⟩:S_api_Stmt)]:List S_api_Stmt)):=rfl
 try simp only [ls,c0]
 try simp only [hp98,hl99,hl99_b]
 try simp only [ls]
 conv=>lhs;whnf
 revert h
 intro h
 refine chk_some2 h ?_;clear h;intro hc103 h
 first|refine bif_pos (app_row hc103 (by first|rfl|simp only [List.length_map]) (by first|rfl|simp only [List.length_map]) (by first|rfl|simp only [List.length_map,take_map_len]) (by kernel_rfl)) ?_|refine bif_pos (app_row2 hc103 (by first|rfl|simp only [List.length_map]) (by first|rfl|simp only [List.length_map,take_map_len]) (by kernel_rfl)) ?_
 have hp101:(List.map c_api_Stmt (s2++([(⟨y20.1.f_Kind,y20.1.f_Reg,y20.1.f_Loc,y20.1.f_E,y20.1.f_F,y20.1.f_Ne,0,0,y20.1.f_At⟩:S_api_Stmt)]:List S_api_Stmt)):List (List AV))++([]:List (List AV))=(List.map c_api_Stmt (s2++([(⟨y20.1.f_Kind,y20.1.f_Reg,y20.1.f_Loc,y20.1.f_E,y20.1.f_F,y20.1.f_Ne,0,0,y20.1.f_At⟩:S_api_Stmt)]:List S_api_Stmt)):List (List AV)):=List.append_nil _
 have hl102:List.length (List.map c_api_Stmt (s2++([(⟨y20.1.f_Kind,y20.1.f_Reg,y20.1.f_Loc,y20.1.f_E,y20.1.f_F,y20.1.f_Ne,0,0,y20.1.f_At⟩:S_api_Stmt)]:List S_api_Stmt)):List (List AV))+List.length ([]:List (List AV))=List.length (List.map c_api_Stmt (s2++([(⟨y20.1.f_Kind,y20.1.f_Reg,y20.1.f_Loc,y20.1.f_E,y20.1.f_F,y20.1.f_Ne,0,0,y20.1.f_At⟩:S_api_Stmt)]:List S_api_Stmt)):List (List AV)):=rfl
 have hl102_b:List.length (s2++([(⟨y20.1.f_Kind,y20.1.f_Reg,y20.1.f_Loc,y20.1.f_E,y20.1.f_F,y20.1.f_Ne,0,0,y20.1.f_At⟩:S_api_Stmt)]:List S_api_Stmt))+List.length ([]:List (List AV))=List.length (s2++([(⟨y20.1.f_Kind,y20.1.f_Reg,y20.1.f_Loc,y20.1.f_E,y20.1.f_F,y20.1.f_Ne,0,0,y20.1.f_At⟩:S_api_Stmt)]:List S_api_Stmt)):=rfl
 try simp only [ls,c0]
 try simp only [hp101,hl102,hl102_b]
 try simp only [ls]
 conv=>lhs;whnf
 revert h
 exact fun h=>cq (hcont8 (y20.2.1,(s2++([(⟨y20.1.f_Kind,y20.1.f_Reg,y20.1.f_Loc,y20.1.f_E,y20.1.f_F,y20.1.f_Ne,0,0,y20.1.f_At⟩:S_api_Stmt)]:List S_api_Stmt))) (fun _=>0) h)
 refine ar (ap c_api_Stmt (List.map c_api_Stmt s2) s2 ([[iA y20.1.f_Kind,sA y20.1.f_Reg,sA y20.1.f_Loc,AV.sl 5 (List.map c_api_Node y20.1.f_E),AV.sl 5 (List.map c_api_Node y20.1.f_F),bA y20.1.f_Ne,iA (0),iA (0),iA y20.1.f_At]]) ([(⟨y20.1.f_Kind,y20.1.f_Reg,y20.1.f_Loc,y20.1.f_E,y20.1.f_F,y20.1.f_Ne,0,0,y20.1.f_At⟩:S_api_Stmt)]:List S_api_Stmt)) ?_
 intro h
 refine chk_some2 h ?_;clear h;intro hc108 h
 first|refine bif_pos (app_row hc108 (by first|rfl|simp only [List.length_map]) (by first|rfl|simp only [List.length_map]) (by first|rfl|simp only [List.length_map,take_map_len]) (by kernel_rfl)) ?_|refine bif_pos (app_row2 hc108 (by first|rfl|simp only [List.length_map]) (by first|rfl|simp only [List.length_map,take_map_len]) (by kernel_rfl)) ?_
 have hp106:(List.map c_api_Stmt (s2++([(⟨y20.1.f_Kind,y20.1.f_Reg,y20.1.f_Loc,y20.1.f_E,y20.1.f_F,y20.1.f_Ne,0,0,y20.1.f_At⟩:S_api_Stmt)]:List S_api_Stmt)):List (List AV))++([]:List (List AV))=(List.map c_api_Stmt (s2++([(⟨y20.1.f_Kind,y20.1.f_Reg,y20.1.f_Loc,y20.1.f_E,y20.1.f_F,y20.1.f_Ne,0,0,y20.1.f_At⟩:S_api_Stmt)]:List S_api_Stmt)):List (List AV)):=List.append_nil _
 have hl107:List.length (List.map c_api_Stmt (s2++([(⟨y20.1.f_Kind,y20.1.f_Reg,y20.1.f_Loc,y20.1.f_E,y20.1.f_F,y20.1.f_Ne,0,0,y20.1.f_At⟩:S_api_Stmt)]:List S_api_Stmt)):List (List AV))+List.length ([]:List (List AV))=List.length (List.map c_api_Stmt (s2++([(⟨y20.1.f_Kind,y20.1.f_Reg,y20.1.f_Loc,y20.1.f_E,y20.1.f_F,y20.1.f_Ne,0,0,y20.1.f_At⟩:S_api_Stmt)]:List S_api_Stmt)):List (List AV)):=rfl
 have hl107_b:List.length (s2++([(⟨y20.1.f_Kind,y20.1.f_Reg,y20.1.f_Loc,y20.1.f_E,y20.1.f_F,y20.1.f_Ne,0,0,y20.1.f_At⟩:S_api_Stmt)]:List S_api_Stmt))+List.length ([]:List (List AV))=List.length (s2++([(⟨y20.1.f_Kind,y20.1.f_Reg,y20.1.f_Loc,y20.1.f_E,y20.1.f_F,y20.1.f_Ne,0,0,y20.1.f_At⟩:S_api_Stmt)]:List S_api_Stmt)):=rfl
 try simp only [ls,c0]
 try simp only [hp106,hl107,hl107_b]
 try simp only [ls]
 conv=>lhs;whnf
 revert h
 intro h
 refine chk_some2 h ?_;clear h;intro hc111 h
 first|refine bif_pos (app_row hc111 (by first|rfl|simp only [List.length_map]) (by first|rfl|simp only [List.length_map]) (by first|rfl|simp only [List.length_map,take_map_len]) (by kernel_rfl)) ?_|refine bif_pos (app_row2 hc111 (by first|rfl|simp only [List.length_map]) (by first|rfl|simp only [List.length_map,take_map_len]) (by kernel_rfl)) ?_
 have hp109:(List.map c_api_Stmt (s2++([(⟨y20.1.f_Kind,y20.1.f_Reg,y20.1.f_Loc,y20.1.f_E,y20.1.f_F,y20.1.f_Ne,0,0,y20.1.f_At⟩:S_api_Stmt)]:List S_api_Stmt)):List (List AV))++([]:List (List AV))=(List.map c_api_Stmt (s2++([(⟨y20.1.f_Kind,y20.1.f_Reg,y20.1.f_Loc,y20.1.f_E,y20.1.f_F,y20.1.f_Ne,0,0,y20.1.f_At⟩:S_api_Stmt)]:List S_api_Stmt)):List (List AV)):=List.append_nil _
 have hl110:List.length (List.map c_api_Stmt (s2++([(⟨y20.1.f_Kind,y20.1.f_Reg,y20.1.f_Loc,y20.1.f_E,y20.1.f_F,y20.1.f_Ne,0,0,y20.1.f_At⟩:S_api_Stmt)]:List S_api_Stmt)):List (List AV))+List.length ([]:List (List AV))=List.length (List.map c_api_Stmt (s2++([(⟨y20.1.f_Kind,y20.1.f_Reg,y20.1.f_Loc,y20.1.f_E,y20.1.f_F,y20.1.f_Ne,0,0,y20.1.f_At⟩:S_api_Stmt)]:List S_api_Stmt)):List (List AV)):=rfl
 have hl110_b:List.length (s2++([(⟨y20.1.f_Kind,y20.1.f_Reg,y20.1.f_Loc,y20.1.f_E,y20.1.f_F,y20.1.f_Ne,0,0,y20.1.f_At⟩:S_api_Stmt)]:List S_api_Stmt))+List.length ([]:List (List AV))=List.length (s2++([(⟨y20.1.f_Kind,y20.1.f_Reg,y20.1.f_Loc,y20.1.f_E,y20.1.f_F,y20.1.f_Ne,0,0,y20.1.f_At⟩:S_api_Stmt)]:List S_api_Stmt)):=rfl
 try simp only [ls,c0]
 try simp only [hp109,hl110,hl110_b]
 try simp only [ls]
 conv=>lhs;whnf
 revert h
 exact fun h=>cq (hcont8 (y20.2.1,(s2++([(⟨y20.1.f_Kind,y20.1.f_Reg,y20.1.f_Loc,y20.1.f_E,y20.1.f_F,y20.1.f_Ne,0,0,y20.1.f_At⟩:S_api_Stmt)]:List S_api_Stmt))) (fun _=>0) h)
 refine ar (ap c_api_Stmt (List.map c_api_Stmt s2) s2 ([[iA y20.1.f_Kind,sA y20.1.f_Reg,sA y20.1.f_Loc,AV.sl 5 (List.map c_api_Node y20.1.f_E),AV.sl 5 (List.map c_api_Node y20.1.f_F),bA y20.1.f_Ne,iA (0),iA (0),iA y20.1.f_At]]) ([(⟨y20.1.f_Kind,y20.1.f_Reg,y20.1.f_Loc,y20.1.f_E,y20.1.f_F,y20.1.f_Ne,0,0,y20.1.f_At⟩:S_api_Stmt)]:List S_api_Stmt)) ?_
 intro h
 refine chk_some2 h ?_;clear h;intro hc116 h
 first|refine bif_pos (app_row hc116 (by first|rfl|simp only [List.length_map]) (by first|rfl|simp only [List.length_map]) (by first|rfl|simp only [List.length_map,take_map_len]) (by kernel_rfl)) ?_|refine bif_pos (app_row2 hc116 (by first|rfl|simp only [List.length_map]) (by first|rfl|simp only [List.length_map,take_map_len]) (by kernel_rfl)) ?_
 have hp114:(List.map c_api_Stmt (s2++([(⟨y20.1.f_Kind,y20.1.f_Reg,y20.1.f_Loc,y20.1.f_E,y20.1.f_F,y20.1.f_Ne,0,0,y20.1.f_At⟩:S_api_Stmt)]:List S_api_Stmt)):List (List AV))++([]:List (List AV))=(List.map c_api_Stmt (s2++([(⟨y20.1.f_Kind,y20.1.f_Reg,y20.1.f_Loc,y20.1.f_E,y20.1.f_F,y20.1.f_Ne,0,0,y20.1.f_At⟩:S_api_Stmt)]:List S_api_Stmt)):List (List AV)):=List.append_nil _
 have hl115:List.length (List.map c_api_Stmt (s2++([(⟨y20.1.f_Kind,y20.1.f_Reg,y20.1.f_Loc,y20.1.f_E,y20.1.f_F,y20.1.f_Ne,0,0,y20.1.f_At⟩:S_api_Stmt)]:List S_api_Stmt)):List (List AV))+List.length ([]:List (List AV))=List.length (List.map c_api_Stmt (s2++([(⟨y20.1.f_Kind,y20.1.f_Reg,y20.1.f_Loc,y20.1.f_E,y20.1.f_F,y20.1.f_Ne,0,0,y20.1.f_At⟩:S_api_Stmt)]:List S_api_Stmt)):List (List AV)):=rfl
 have hl115_b:List.length (s2++([(⟨y20.1.f_Kind,y20.1.f_Reg,y20.1.f_Loc,y20.1.f_E,y20.1.f_F,y20.1.f_Ne,0,0,y20.1.f_At⟩:S_api_Stmt)]:List S_api_Stmt))+List.length ([]:List (List AV))=List.length (s2++([(⟨y20.1.f_Kind,y20.1.f_Reg,y20.1.f_Loc,y20.1.f_E,y20.1.f_F,y20.1.f_Ne,0,0,y20.1.f_At⟩:S_api_Stmt)]:List S_api_Stmt)):=rfl
 try simp only [ls,c0]
 try simp only [hp114,hl115,hl115_b]
 try simp only [ls]
 conv=>lhs;whnf
 revert h
 intro h
 refine chk_some2 h ?_;clear h;intro hc119 h
 first|refine bif_pos (app_row hc119 (by first|rfl|simp only [List.length_map]) (by first|rfl|simp only [List.length_map]) (by first|rfl|simp only [List.length_map,take_map_len]) (by kernel_rfl)) ?_|refine bif_pos (app_row2 hc119 (by first|rfl|simp only [List.length_map]) (by first|rfl|simp only [List.length_map,take_map_len]) (by kernel_rfl)) ?_
 have hp117:(List.map c_api_Stmt (s2++([(⟨y20.1.f_Kind,y20.1.f_Reg,y20.1.f_Loc,y20.1.f_E,y20.1.f_F,y20.1.f_Ne,0,0,y20.1.f_At⟩:S_api_Stmt)]:List S_api_Stmt)):List (List AV))++([]:List (List AV))=(List.map c_api_Stmt (s2++([(⟨y20.1.f_Kind,y20.1.f_Reg,y20.1.f_Loc,y20.1.f_E,y20.1.f_F,y20.1.f_Ne,0,0,y20.1.f_At⟩:S_api_Stmt)]:List S_api_Stmt)):List (List AV)):=List.append_nil _
 have hl118:List.length (List.map c_api_Stmt (s2++([(⟨y20.1.f_Kind,y20.1.f_Reg,y20.1.f_Loc,y20.1.f_E,y20.1.f_F,y20.1.f_Ne,0,0,y20.1.f_At⟩:S_api_Stmt)]:List S_api_Stmt)):List (List AV))+List.length ([]:List (List AV))=List.length (List.map c_api_Stmt (s2++([(⟨y20.1.f_Kind,y20.1.f_Reg,y20.1.f_Loc,y20.1.f_E,y20.1.f_F,y20.1.f_Ne,0,0,y20.1.f_At⟩:S_api_Stmt)]:List S_api_Stmt)):List (List AV)):=rfl
 have hl118_b:List.length (s2++([(⟨y20.1.f_Kind,y20.1.f_Reg,y20.1.f_Loc,y20.1.f_E,y20.1.f_F,y20.1.f_Ne,0,0,y20.1.f_At⟩:S_api_Stmt)]:List S_api_Stmt))+List.length ([]:List (List AV))=List.length (s2++([(⟨y20.1.f_Kind,y20.1.f_Reg,y20.1.f_Loc,y20.1.f_E,y20.1.f_F,y20.1.f_Ne,0,0,y20.1.f_At⟩:S_api_Stmt)]:List S_api_Stmt)):=rfl
 try simp only [ls,c0]
 try simp only [hp117,hl118,hl118_b]
 try simp only [ls]
 conv=>lhs;whnf
 revert h
 exact fun h=>cq (hcont8 (y20.2.1,(s2++([(⟨y20.1.f_Kind,y20.1.f_Reg,y20.1.f_Loc,y20.1.f_E,y20.1.f_F,y20.1.f_Ne,0,0,y20.1.f_At⟩:S_api_Stmt)]:List S_api_Stmt))) (fun _=>0) h)
 intro h;cases sj h
 exact kq (hr9 (fun _=>0))
 refine lrc ?_ ?_
 intro v e;subst e;cases sj h;rfl
 intro t a120 e;subst e
 obtain ⟨x121,x122⟩:=t
 dsimp only at h
 conv=>lhs;whnf
 revert h
 intro h;cases sj h
 try simp only [ls]
 exact fq (y:=some (AV.tup [AV.sl 9 (List.take (List.length x122) (List.map c_api_Stmt x122)),iA x121,iA (0),iA (0)],[]))
theorem all_ref03_braced : ∀ n, IH_ref03_braced n
  | 0 => ⟨by unfold OK_ref03_braced; intros; rename_i h; exact absurd h (by intro h; cases h), by unfold OK_ref03_list; intros; rename_i h; exact absurd h (by intro h; cases h)⟩
  | n + 1 => have ih := all_ref03_braced n
    ⟨st_ref03_braced n ih, st_ref03_list n ih⟩
theorem ok_ref03_list {n : Nat} : OK_ref03_list n := (all_ref03_braced n).2
theorem ok_ref03_Parse {n:Nat} ⦃v0_l:(List S_api_Token)⦄ ⦃v1_i:Int⦄ ⦃r:((List S_api_Stmt)×Int×Int×Int)⦄:m_ref03_Parse n v0_l v1_i=some r→CN n 55 [AV.sl 4 (List.map c_api_Token v0_l),iA v1_i] []=some (AV.tup [AV.sl 9 (List.map c_api_Stmt r.1),iA r.2.1,iA r.2.2.1,iA r.2.2.2],[]):=by
 intro h;rcases n with _|n;cases h
 rw [m_ref03_Parse] at h
 refine callN_eq' Try.func55 (by rfl) rfl rfl (Nat.le_of_ble_eq_true rfl) ?_
 intro call hc;conv=>lhs;whnf
 revert h
 refine br ?_ ?_
 exact rz
 refine br ?_ ?_
 exact rz
 refine ca hc (fun _ h=>ok_ref03_list h) ?_;intro y3
 refine br ?_ ?_
 exact rz
 refine br ?_ ?_
 refine ca hc (fun _ h=>ok_ref02_Place h) ?_;intro y7
 exact rz
 exact rz
theorem ok_ref03_Light {n:Nat} ⦃v0_l:(List S_api_Stmt)⦄ ⦃r:Bool⦄:m_ref03_Light n v0_l=some r→CN n 12 [AV.sl 9 (List.map c_api_Stmt v0_l)] []=some (bA r,[]):=by
 intro h;rcases n with _|n;cases h
 rw [m_ref03_Light] at h
 refine callN_eq' Try.func12 (by rfl) rfl rfl (Nat.le_of_ble_eq_true rfl) ?_
 intro call hc;conv=>lhs;whnf
 revert h
 refine br ?_ ?_
 exact rz
 intro h;refine bind_some2 h ?_;clear h;intro o10 ho10 h
 refine lq (σ:=Int) (τ:=Unit) (ν:=Bool) 0 (fun s2 a4=>stOf 47 [(0,AV.sl 9 (List.map c_api_Stmt v0_l)),(3,iA s2)]) (fun s2 a4=>[]) (fun _ a24=>stOf 47 []) (fun _ a24=>[]) (fun v=>(bA v,[])) (fun k s=>ref03_Light_L0 n v0_l k s) (fun s=>rfl) o10 n 0 (fun _=>0) ho10 ?_ ?_
 intro k3 s2 a4 K5 cont6 hK7 hcont8 h hr9
 replace h:ref03_Light_L0 n v0_l (k3+1) s2=some o10:=h
 rw [ref03_Light_L0] at h
 conv=>lhs;whnf
 revert h
 refine br ?_ ?_
 refine ix ?_;intro x12
 refine br ?_ ?_
 intro h;cases sj h
 refine (hK7 _ _).trans ?_
 refine Eq.trans ?_ (Eq.symm (show _=some _ from hr9))
 conv=>lhs;whnf
 exact rq
 refine ix ?_;intro x14
 refine br ?_ ?_
 intro h;cases sj h
 refine (hK7 _ _).trans ?_
 refine Eq.trans ?_ (Eq.symm (show _=some _ from hr9))
 conv=>lhs;whnf
 exact rq
 refine ix ?_;intro x16
 refine ca hc (fun _ h=>ok_ref02_Light h) ?_;intro y17
 refine br ?_ ?_
 refine ix ?_;intro x20
 refine ca hc (fun _ h=>ok_ref02_Light h) ?_;intro y21
 refine br ?_ ?_
 exact fun h=>cq (hcont8 (IntKind.i64.wrap (s2+1)) (fun _=>0) h)
 intro h;cases sj h
 refine (hK7 _ _).trans ?_
 refine Eq.trans ?_ (Eq.symm (show _=some _ from hr9))
 conv=>lhs;whnf
 exact rq
 intro h;cases sj h
 refine (hK7 _ _).trans ?_
 refine Eq.trans ?_ (Eq.symm (show _=some _ from hr9))
 conv=>lhs;whnf
 exact rq
 intro h;cases sj h
 exact kq (hr9 (fun _=>0))
 refine lrc ?_ ?_
 intro v e;subst e;cases sj h;rfl
 intro t a24 e;subst e
 dsimp only at h
 conv=>lhs;whnf
 revert h
 exact rz
end Go.Proofs.Ytpnhafdimkmbbaa
end
