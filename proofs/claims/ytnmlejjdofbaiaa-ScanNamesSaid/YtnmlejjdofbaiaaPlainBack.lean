/- Parts of the proofs of the laws of layer 1, scan (text PlainBack). Conditions: none. -/
import Derived.Test.YtnmlejjdofbaiaaPlainLaws
/- Plain: what is shown of a text's tokens has just these. -/
namespace Go.Proofs.Ytnmlejjdofbaiaa

/-- A token of a text, where it says. -/
def GoodTok (L : List UInt8) (t : Tok) : Prop := ∃ q v : Nat, t.at' = q ∧ t.n = v ∧ q + t.text.length ≤ L.length ∧ (L.drop q).take t.text.length = t.text ∧ oneL t.text = .tok t.kind t.text.length v

theorem runLen_take (p : Int → Bool) (l : List UInt8) : runLen p (l.take (runLen p l)) = runLen p l := by
  have h := List.prefix_iff_eq_take.1 (List.takeWhile_prefix (fun c : UInt8 => p c.toNat) (l := l))
  have e : l.take (runLen p l) = l.takeWhile fun c => p c.toNat := h.symm
  rw [e]
  unfold runLen
  congr 1
  generalize (fun c : UInt8 => p c.toNat) = q
  clear e h
  induction l with
  | nil => rfl
  | cons a s ih =>
    rw [List.takeWhile_cons]
    split
    · rename_i ha
      rw [List.takeWhile_cons, if_pos ha, ih]
    · rfl

theorem oneL_take {l : List UInt8} {k : Int} {n v : Nat} (h : oneL l = .tok k n v) : oneL (l.take n) = .tok k n v ∧ (l.take n).length = n := by
  have hn := oneL_len h
  refine ⟨?_, by rw [List.length_take]; omega⟩
  rcases l with _ | ⟨c, t⟩
  · simp [oneL] at h
  · obtain ⟨m, rfl⟩ : ∃ m, n = m + 1 := ⟨n - 1, by omega⟩
    simp only [oneL] at h
    rw [List.take_succ_cons]
    simp only [oneL]
    split at h
    · rename_i hc
      rw [if_pos hc]
      split at h
      · simp at h
      · rename_i h16
        simp only [Lx.tok.injEq] at h
        obtain ⟨rfl, h2, rfl⟩ := h
        have e := runLen_take wordB (c :: t)
        rw [h2, List.take_succ_cons] at e
        rw [e, if_neg (by omega)]
    · rename_i hc
      rw [if_neg hc]
      split at h
      · rename_i hd
        rw [if_pos hd]
        split at h
        · simp at h
        · rename_i h99
          simp only [Lx.tok.injEq] at h
          obtain ⟨rfl, h2, rfl⟩ := h
          have e := runLen_take digitB (c :: t)
          rw [h2, List.take_succ_cons] at e
          rw [h2] at h99 ⊢
          have e5 : (c :: t.take m).take (m + 1) = (c :: t).take (m + 1) := by simp [List.take_take]
          rw [e, e5, if_neg h99]
      · rename_i hd
        rw [if_neg hd]
        split at h
        · simp at h
        · rename_i h0
          simp only [Lx.tok.injEq] at h
          obtain ⟨rfl, h2, rfl⟩ := h
          have e : signLen (c :: t.take m) = m + 1 := by
            rw [← List.take_succ_cons]
            unfold signLen at h2 ⊢
            split at h2
            · rename_i hs
              have hm : m = 1 := by omega
              subst hm
              rw [if_pos (by rw [List.take_take]; exact hs)]
            · rename_i hs
              split at h2
              · rename_i hh
                have hm : m = 0 := by omega
                subst hm
                rw [if_neg, if_pos]
                · simpa using hh
                · intro h
                  have h := List.contains_iff_mem.1 h
                  simp [signs2] at h
              · omega
          rw [e, if_neg (by omega)]

def Sorted (P : Nat) (toks : List Tok) : Prop := List.Pairwise (fun a b : Tok => a.at' < b.at') toks ∧ ∀ t ∈ toks, t.at' < P

theorem lexFrom_good (L : List UInt8) (f : Nat) (p : Nat) (acc : List Tok) (hp : p ≤ L.length) (hacc : ∀ t ∈ acc, GoodTok L t) (hs : Sorted p acc) (h : (lexFrom f (L.drop p) p acc).err = 0) :
    (∀ t ∈ (lexFrom f (L.drop p) p acc).toks, GoodTok L t) ∧ List.Pairwise (fun a b : Tok => a.at' < b.at') (lexFrom f (L.drop p) p acc).toks := by
  induction f generalizing p acc with
  | zero => exact ⟨hacc, hs.1⟩
  | succ f ih =>
    have hg := gapS_le false (L.drop p)
    rw [List.length_drop] at hg
    simp only [lexFrom] at h ⊢
    rw [List.drop_drop] at h ⊢
    rcases hd : L.drop (p + gapS false (L.drop p)) with _ | ⟨c, u⟩
    · exact ⟨hacc, hs.1⟩
    · rw [hd] at h
      simp only at h ⊢
      have hlen := congrArg List.length hd
      rw [List.length_drop] at hlen
      cases ho : oneL (c :: u) with
      | err e =>
        rw [ho] at h
        have := oneL_err ho
        simp only at h
        subst h
        simp at this
      | tok k n v =>
        rw [ho] at h
        simp only at h ⊢
        have hn := oneL_len ho
        have ht := oneL_take ho
        have e : (c :: u).drop n = L.drop (p + gapS false (L.drop p) + n) := by rw [← hd, List.drop_drop]
        rw [e] at h ⊢
        refine ih _ _ (by omega) ?_ ?_ h
        · intro t hm
          rcases List.mem_append.1 hm with hm | hm
          · exact hacc t hm
          · simp only [List.mem_singleton] at hm
            subst hm
            refine ⟨p + gapS false (L.drop p), v, rfl, rfl, ?_, ?_, ?_⟩
            · simp only [ht.2]; omega
            · simp only [ht.2, hd]
            · simp only [ht.2]; exact ht.1
        · refine ⟨?_, fun t hm => ?_⟩
          · rw [List.pairwise_append]
            refine ⟨hs.1, by simp, fun a ha b hb => ?_⟩
            simp only [List.mem_singleton] at hb
            subst hb
            have := hs.2 a ha
            simp only
            omega
          · rcases List.mem_append.1 hm with hm | hm
            · have := hs.2 t hm; omega
            · simp only [List.mem_singleton] at hm
              subst hm
              simp only
              omega

/-- How many bytes tokens have. -/
def sumLen (l : List Tok) : Nat := (l.map fun t => t.text.length).sum

theorem lexFrom_sum (f : Nat) (l : List UInt8) (p : Nat) (acc : List Tok) (h : (lexFrom f l p acc).err = 0) : sumLen (lexFrom f l p acc).toks ≤ sumLen acc + l.length := by
  induction f generalizing l p acc with
  | zero => simp [lexFrom]
  | succ f ih =>
    have hg := gapS_le false l
    simp only [lexFrom] at h ⊢
    rcases hd : l.drop (gapS false l) with _ | ⟨c, u⟩
    · simp
    · rw [hd] at h
      simp only at h ⊢
      have hlen := congrArg List.length hd
      rw [List.length_drop] at hlen
      cases ho : oneL (c :: u) with
      | err e =>
        rw [ho] at h
        have := oneL_err ho
        simp only at h
        subst h
        simp at this
      | tok k n v =>
        rw [ho] at h
        simp only at h ⊢
        have hn := oneL_len ho
        have := ih _ _ _ h
        simp only [sumLen, List.map_append, List.sum_append, List.map_cons, List.map_nil, List.sum_cons, List.sum_nil, List.length_take, List.length_drop] at this ⊢
        omega

theorem lexFrom_count (f : Nat) (l : List UInt8) (p : Nat) (acc : List Tok) : (lexFrom f l p acc).toks.length ≤ acc.length + l.length := by
  induction f generalizing l p acc with
  | zero => simp [lexFrom]
  | succ f ih =>
    have hg := gapS_le false l
    simp only [lexFrom]
    rcases hd : l.drop (gapS false l) with _ | ⟨c, u⟩
    · simp
    · have hlen := congrArg List.length hd
      rw [List.length_drop] at hlen
      simp only
      cases ho : oneL (c :: u) with
      | err e => simp
      | tok k n v =>
        simp only
        have hn := oneL_len ho
        have := ih ((c :: u).drop n) (p + gapS false l + n) (acc ++ [⟨k, (c :: u).take n, v, (p + gapS false l : Nat)⟩])
        simp only [List.length_append, List.length_singleton, List.length_drop] at this
        omega
theorem scan_count (l : List UInt8) : (scanL l).toks.length ≤ l.length := by
  unfold scanL
  split
  · simp
  · have := lexFrom_count (l.length + 1) l 0 []
    simpa using this

/-- Tokens as text, from the left. -/
def joinT : List Tok → List UInt8
  | [] => []
  | [t] => t.text
  | t :: s :: r => t.text ++ 32 :: joinT (s :: r)

theorem joinT_snoc (l : List Tok) (t : Tok) : joinT (l ++ [t]) = (if 0 < l.length then joinT l ++ [32] else joinT l) ++ t.text := by
  induction l with
  | nil => simp [joinT]
  | cons a s ih =>
    rcases s with _ | ⟨b, r⟩
    · simp [joinT]
    · simp only [List.cons_append, joinT] at ih ⊢
      rw [ih]
      simp

theorem showB_join (l : List Tok) (k : Nat) (hk : k ≤ l.length) : showB l k = joinT (l.take k) := by
  induction k with
  | zero => simp [showB, joinT]
  | succ k ih =>
    rw [showB_succ l k (by omega), ih (by omega), List.take_succ_eq_append_getElem (by omega), joinT_snoc]
    have : (l.take k).length = k := by rw [List.length_take]; omega
    rw [this]

theorem joinT_length (l : List Tok) : (joinT l).length ≤ sumLen l + l.length := by
  induction l with
  | nil => simp [joinT]
  | cons a s ih =>
    rcases s with _ | ⟨b, r⟩
    · simp [joinT, sumLen]
    · simp only [joinT, List.length_append, List.length_cons, sumLen, List.map_cons, List.sum_cons] at ih ⊢
      omega

theorem tok_head {c : UInt8} {u : List UInt8} {k : Int} {n v : Nat} (h : oneL (c :: u) = .tok k n v) : blankB c.toNat = false ∧ c.toNat ≠ 35 := by
  by_cases hl : letterB c.toNat = true
  · exact letter_not_blank hl
  · by_cases hd : digitB c.toNat = true
    · simp only [digitB, decide_eq_true_eq] at hd
      simp only [blankB, decide_eq_false_iff_not]
      omega
    · simp only [oneL, hl, hd, if_false, Bool.false_eq_true] at h
      split at h
      · simp at h
      · rename_i h0
        have hm : c ∈ signs1 ∨ c ∈ ([61, 33, 60, 38, 124] : List UInt8) := by
          unfold signLen at h0
          split at h0
          · rename_i hs
            have hs := List.contains_iff_mem.1 hs
            right
            rcases u with _ | ⟨d, u⟩
            · simp [signs2] at hs
            · simp only [List.take_succ_cons, List.take_zero, signs2, List.mem_cons, List.cons.injEq, List.not_mem_nil, or_false] at hs
              rcases hs with hs | hs | hs | hs | hs <;> simp [hs.1]
          · split at h0
            · rename_i hh
              left
              simp only [List.head?_cons, Option.any_some] at hh
              exact List.contains_iff_mem.1 hh
            · exact absurd rfl h0
        have h1 : ∀ c ∈ signs1, blankB c.toNat = false ∧ c.toNat ≠ 35 := by decide
        have h2 : ∀ c ∈ ([61, 33, 60, 38, 124] : List UInt8), blankB c.toNat = false ∧ c.toNat ≠ 35 := by decide
        rcases hm with hm | hm
        · exact h1 c hm
        · exact h2 c hm

theorem lexFrom_skip (f : Nat) (x : List UInt8) (p : Nat) (acc : List Tok) : lexFrom (f + 1) (32 :: x) p acc = lexFrom (f + 1) x (p + 1) acc := by
  have hb : blankB (32 : UInt8).toNat = true := by decide
  simp only [lexFrom, gapS, if_pos hb]
  rw [Nat.add_comm 1 (gapS false x), List.drop_succ_cons]
  have e : p + (gapS false x + 1) = p + 1 + gapS false x := by omega
  simp only [e]

def SelfTok (t : Tok) : Prop := ∃ v : Nat, t.n = v ∧ oneL t.text = .tok t.kind t.text.length v

theorem lexFrom_join (l : List Tok) (hl : ∀ t ∈ l, SelfTok t) (f : Nat) (p : Nat) (acc : List Tok) (hf : (joinT l).length < f) :
    (lexFrom f (joinT l) p acc).err = 0 ∧ (lexFrom f (joinT l) p acc).toks.map Tok.core = acc.map Tok.core ++ l.map Tok.core := by
  induction l generalizing f p acc with
  | nil =>
    cases f with
    | zero => omega
    | succ f => simp [joinT, lexFrom, gapS]
  | cons t r ih =>
    obtain ⟨v, hv, ho⟩ := hl t (by simp)
    have hn := oneL_len ho
    rcases htx : t.text with _ | ⟨c, u⟩
    · rw [htx] at hn; simp at hn
    · cases f with
      | zero => omega
      | succ f =>
        have hh := tok_head (by rw [htx] at ho; exact ho)
        rcases r with _ | ⟨s, r⟩
        · simp only [joinT]
          have hg : gapS false t.text = 0 := by rw [htx]; exact gapS_none hh.1 hh.2
          simp only [lexFrom, hg, List.drop_zero]
          rw [htx] at ho ⊢
          simp only [ho, List.drop_length, List.take_length]
          have : lexFrom f ([] : List UInt8) (p + 0 + (c :: u).length) (acc ++ [⟨t.kind, c :: u, v, (p + 0 : Nat)⟩]) = ⟨acc ++ [⟨t.kind, c :: u, v, (p + 0 : Nat)⟩], 0, 0⟩ := by
            cases f <;> simp [lexFrom, gapS]
          rw [this]
          simp [Tok.core, htx, hv]
        · simp only [joinT] at hf ⊢
          have hg : gapS false (t.text ++ 32 :: joinT (s :: r)) = 0 := by rw [htx]; exact gapS_none hh.1 hh.2
          simp only [lexFrom, hg, List.drop_zero]
          have ho2 : oneL (t.text ++ 32 :: joinT (s :: r)) = .tok t.kind t.text.length v := by
            rw [htx, oneL_end _ _ _ _ (.inr rfl), ← htx]; exact ho
          have hd : (t.text ++ 32 :: joinT (s :: r)).drop t.text.length = 32 :: joinT (s :: r) := List.drop_left
          have htk : (t.text ++ 32 :: joinT (s :: r)).take t.text.length = t.text := List.take_left
          rcases hx : t.text ++ 32 :: joinT (s :: r) with _ | ⟨c2, u2⟩
          · rw [htx] at hx; simp at hx
          · rw [hx] at ho2 hd htk hf
            simp only [ho2, hd, htk]
            have hlen := congrArg List.length hx
            simp only [List.length_append, List.length_cons] at hlen hf
            cases f with
            | zero => omega
            | succ f =>
              rw [lexFrom_skip]
              have := ih (fun t ht => hl t (by simp only [List.mem_cons] at ht ⊢; exact .inr ht)) (f + 1) (p + 0 + t.text.length + 1) (acc ++ [⟨t.kind, t.text, v, (p + 0 : Nat)⟩]) (by omega)
              refine ⟨this.1, ?_⟩
              rw [this.2]
              simp [Tok.core, hv]

/-- All of it, of a text that is right. -/
theorem scan_back {L : List UInt8} (hL : L.length ≤ 3000) (h : (scanL L).err = 0) :
    (∀ t ∈ (scanL L).toks, GoodTok L t) ∧ List.Pairwise (fun a b : Tok => a.at' < b.at') (scanL L).toks ∧ (scanL L).toks.length ≤ 3000 ∧ (∀ t ∈ (scanL L).toks, t.text.length ≤ 3000) ∧
    (showB (scanL L).toks (scanL L).toks.length).length ≤ 6000 ∧ (scanL (showB (scanL L).toks (scanL L).toks.length)).err = 0 ∧ toksEq false (scanL L).toks (scanL (showB (scanL L).toks (scanL L).toks.length)).toks = true := by
  have hx : scanL L = lexFrom (L.length + 1) L 0 [] := by unfold scanL; rw [if_neg (by omega)]
  have hg := lexFrom_good L (L.length + 1) 0 [] (by omega) (by simp) ⟨by simp, by simp⟩ (by rw [List.drop_zero, ← hx]; exact h)
  have hs := lexFrom_sum (L.length + 1) L 0 [] (by rw [← hx]; exact h)
  rw [List.drop_zero, ← hx] at hg
  rw [← hx] at hs
  simp only [sumLen, List.map_nil, List.sum_nil, Nat.zero_add] at hs
  obtain ⟨h1, h2⟩ := hg
  have hpos : ∀ t ∈ (scanL L).toks, 0 < t.text.length ∧ t.text.length ≤ L.length := fun t ht => by
    obtain ⟨q, v, _, _, h3, _, h5⟩ := h1 t ht
    have := oneL_len h5
    omega
  have hcount : (scanL L).toks.length ≤ sumLen (scanL L).toks := by
    have : ∀ l : List Tok, (∀ t ∈ l, 0 < t.text.length) → l.length ≤ sumLen l := by
      intro l
      induction l with
      | nil => simp
      | cons a s ih =>
        intro hl
        have h6 := hl a (by simp)
        have h7 := ih fun t ht => hl t (by simp [ht])
        simp only [sumLen, List.length_cons, List.map_cons, List.sum_cons] at h7 ⊢
        omega
    exact this _ fun t ht => (hpos t ht).1
  have hj := showB_join (scanL L).toks (scanL L).toks.length (Nat.le_refl _)
  rw [List.take_length] at hj
  have hjl := joinT_length (scanL L).toks
  have hsum : sumLen (scanL L).toks ≤ L.length := hs
  have hself : ∀ t ∈ (scanL L).toks, SelfTok t := fun t ht => by
    obtain ⟨q, v, _, hv, _, _, h5⟩ := h1 t ht
    exact ⟨v, hv, h5⟩
  have hl := lexFrom_join (scanL L).toks hself ((joinT (scanL L).toks).length + 1) 0 [] (by omega)
  have hsx : scanL (joinT (scanL L).toks) = lexFrom ((joinT (scanL L).toks).length + 1) (joinT (scanL L).toks) 0 [] := by
    rw [scanL, if_neg (by omega)]
  rw [hj]
  refine ⟨h1, h2, by omega, fun t ht => by have := (hpos t ht).2; omega, by omega, ?_, ?_⟩
  · rw [hsx]; exact hl.1
  · rw [toksEq_core, hsx, hl.2]; simp

end Go.Proofs.Ytnmlejjdofbaiaa
