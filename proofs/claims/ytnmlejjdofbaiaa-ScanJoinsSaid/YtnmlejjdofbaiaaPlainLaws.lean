/- Parts of the proofs of the laws of layer 1, scan (text PlainLaws). Conditions: none. -/
import Derived.Test.YtnmlejjdofbaiaaPlainLex2
import Derived.Test.YtnmlejjdofbaiaaShow
/- Plain: what the laws of layer 1 say of the tokens, with no program in sight. -/
namespace Go.Proofs.Ytnmlejjdofbaiaa

/-! ### A name is one Ident -/

theorem nameAt_word {l : List UInt8} {k : Nat} (hk : k < l.length) (h : nameAt l k = true) : wordB l[k].toNat = true := by
  simp only [nameAt, List.getElem?_eq_getElem hk, Bool.or_eq_true, Bool.and_eq_true, decide_eq_true_eq] at h
  simp only [wordB, Bool.or_eq_true]
  rcases h with h | h
  · exact .inl h
  · exact .inr h.2

/-- A word: a letter, then letters and digits, not too many. -/
def wordL (l : List UInt8) : Prop := ∃ c t, l = c :: t ∧ letterB c.toNat = true ∧ (∀ k (hk : k < l.length), wordB l[k].toNat = true) ∧ l.length ≤ 16

theorem word_of_name {l : List UInt8} (h : nameB l = true) : wordL l := by
  simp only [nameB, Bool.and_eq_true, Bool.not_eq_true', decide_eq_true_eq, List.all_eq_true, List.mem_range] at h
  obtain ⟨⟨⟨h1, h2⟩, h3⟩, _⟩ := h
  rcases l with _ | ⟨c, t⟩
  · simp at h1
  · refine ⟨c, t, rfl, ?_, fun k hk => nameAt_word hk (h3 k hk), h2⟩
    have := h3 0 (by simp)
    simpa [nameAt] using this

theorem name_of_word {l : List UInt8} (h : wordL l) (hk : kwB l = false) : nameB l = true := by
  obtain ⟨c, t, rfl, h1, h2, h3⟩ := h
  rw [nameB_good]
  · simp [hk]; simpa using h3
  · intro k hk2
    simp only [nameAt, List.getElem?_eq_getElem hk2]
    rcases k with _ | k
    · simp [h1]
    · have := h2 (k + 1) hk2
      simpa [wordB] using this

theorem word_of_kw {l : List UInt8} (h : kwB l = true) : wordL l := by
  have hm : l ∈ kws := by simpa [kwB] using h
  have hall : ∀ l ∈ kws, l ≠ [] ∧ l.head?.all (fun c => letterB c.toNat) = true ∧ l.all (fun c => wordB c.toNat) = true ∧ l.length ≤ 16 := by decide
  obtain ⟨h1, h2, h3, h4⟩ := hall l hm
  rcases l with _ | ⟨c, t⟩
  · exact absurd rfl h1
  · refine ⟨c, t, rfl, by simpa using h2, fun k hk => ?_, h4⟩
    exact List.all_eq_true.1 h3 _ (List.getElem_mem hk)

theorem letter_not_blank {c : UInt8} (h : letterB c.toNat = true) : blankB c.toNat = false ∧ c.toNat ≠ 35 := by
  simp only [letterB, decide_eq_true_eq] at h
  simp only [blankB, decide_eq_false_iff_not]
  omega

theorem scan_word {l : List UInt8} (h : wordL l) : scanL l = ⟨[⟨1, l, 0, 0⟩], 0, 0⟩ := by
  obtain ⟨c, t, rfl, h1, h2, h3⟩ := h
  have hr : runLen wordB (c :: t) = (c :: t).length := runLen_all h2
  have hg : gapS false (c :: t) = 0 := gapS_none (letter_not_blank h1).1 (letter_not_blank h1).2
  have ho : oneL (c :: t) = .tok 1 (c :: t).length 0 := by
    simp only [oneL, h1, if_true, hr]
    rw [if_neg (by omega)]
  unfold scanL
  rw [if_neg (by omega)]
  have := lexAt_tok (c :: t) 0 [] 1 (c :: t).length 0 hg (by simp) ho
  unfold lexAt at this
  simp only [List.drop_zero] at this
  rw [this]
  simp [lexFrom]

theorem lexFrom_err (f : Nat) (l : List UInt8) (p : Nat) (acc : List Tok) (h : (lexFrom f l p acc).err ≠ 0) : (lexFrom f l p acc).toks = [] ∧ 0 ≤ (lexFrom f l p acc).at' ∧ (lexFrom f l p acc).at' ≤ p + l.length := by
  induction f generalizing l p acc with
  | zero => simp [lexFrom] at h
  | succ f ih =>
    have hg := gapS_le false l
    simp only [lexFrom] at h ⊢
    split at h
    · simp at h
    · rename_i c t hd
      have hlen : (c :: t).length = l.length - gapS false l := by rw [← hd]; simp
      try simp only
      split at h
      · simp only
        exact ⟨trivial, by omega, by omega⟩
      · rename_i k n v ho
        have hn := oneL_len ho
        try simp only
        have := ih _ _ _ h
        refine ⟨this.1, this.2.1, ?_⟩
        have h3 := this.2.2
        rw [List.length_drop] at h3
        omega

/-- What is told of a text that is not right: nothing, and a place within it. -/
theorem scan_err {l : List UInt8} (hl : l.length ≤ 3000) (h : (scanL l).err ≠ 0) : (scanL l).toks = [] ∧ 0 ≤ (scanL l).at' ∧ (scanL l).at' ≤ l.length := by
  unfold scanL at h ⊢
  rw [if_neg (by omega)] at h ⊢
  have := lexFrom_err _ _ _ _ h
  simpa using this

theorem lexFrom_prefix (f : Nat) (l : List UInt8) (p : Nat) (acc : List Tok) (h : (lexFrom f l p acc).err = 0) : ∃ r, (lexFrom f l p acc).toks = acc ++ r := by
  induction f generalizing l p acc with
  | zero => exact ⟨[], by simp [lexFrom]⟩
  | succ f ih =>
    simp only [lexFrom] at h ⊢
    split at h
    · exact ⟨[], by simp⟩
    · rename_i c t hd
      try simp only
      split at h
      · exact ⟨[], by rename_i e ho; have := oneL_err ho; simp only at h; rw [h] at this; simp at this⟩
      · rename_i k n v ho
        try simp only
        obtain ⟨r, hr⟩ := ih _ _ _ h
        exact ⟨_, by rw [hr, List.append_assoc]⟩

/-- A text that is one Ident, whole, is a word. -/
theorem word_of_scan {l : List UInt8} {t : Tok} (h0 : (scanL l).err = 0) (h1 : (scanL l).toks = [t]) (hk : t.kind = 1) (ht : t.text = l) : wordL l := by
  unfold scanL at h0 h1
  split at h0
  · simp at h0
  · rename_i hs
    rw [if_neg hs] at h1
    have hg := gapS_le false l
    simp only [lexFrom] at h0 h1
    split at h1
    · simp at h1
    · rename_i c u hd
      rw [hd] at h0
      simp only at h0 h1
      split at h1
      · simp at h1
      · rename_i k n v ho
        rw [ho] at h0
        simp only at h0
        obtain ⟨r, hr⟩ := lexFrom_prefix _ _ _ _ h0
        rw [hr] at h1
        have hlen := congrArg List.length h1
        simp only [List.nil_append, List.length_append, List.length_singleton] at hlen
        have hr0 : r = [] := List.eq_nil_of_length_eq_zero (by omega)
        subst hr0
        simp only [List.nil_append, List.append_nil, List.cons.injEq, and_true] at h1
        subst h1
        simp only at hk ht
        have hn := oneL_len ho
        have hl1 := congrArg List.length ht
        have hl2 := congrArg List.length hd
        rw [List.length_take] at hl1
        rw [List.length_drop] at hl2
        have hg0 : gapS false l = 0 := by omega
        rw [hg0, List.drop_zero] at hd
        subst hd
        have hnn : n = (c :: u).length := by omega
        subst hnn
        simp only [oneL] at ho
        split at ho
        · rename_i hc
          split at ho
          · simp at ho
          · rename_i h16
            simp only [Lx.tok.injEq] at ho
            refine ⟨c, u, rfl, hc, fun k hk => ?_, by omega⟩
            have h3 : (c :: u).takeWhile (fun x => wordB x.toNat) = c :: u := by
              have h4 := (List.takeWhile_prefix (fun x : UInt8 => wordB x.toNat) (l := c :: u)).eq_of_length (by unfold runLen at ho; exact ho.2.1)
              exact h4
            have h5 : ∀ (q : UInt8 → Bool) (l : List UInt8), l.takeWhile q = l → ∀ x ∈ l, q x = true := by
              intro q l
              induction l with
              | nil => simp
              | cons a s ih =>
                intro h x hx
                rw [List.takeWhile_cons] at h
                split at h
                · rename_i ha
                  simp only [List.cons.injEq, true_and] at h
                  rcases List.mem_cons.1 hx with rfl | hx
                  · exact ha
                  · exact ih h x hx
                · simp at h
            exact h5 _ _ h3 _ (List.getElem_mem hk)
        · split at ho
          · split at ho
            · simp at ho
            · simp only [Lx.tok.injEq] at ho; omega
          · split at ho
            · simp at ho
            · simp only [Lx.tok.injEq] at ho; omega

/-! ### Tokens but for their places -/

def Tok.core (t : Tok) : Int × List UInt8 × Int := (t.kind, t.text, t.n)

theorem toksEq_core (a b : List Tok) : toksEq false a b = true ↔ a.map Tok.core = b.map Tok.core := by
  induction a generalizing b with
  | nil => cases b <;> simp [toksEq]
  | cons x s ih =>
    cases b with
    | nil => simp [toksEq]
    | cons y t =>
      simp only [toksEq, Bool.and_eq_true, ih, List.map_cons, List.cons.injEq]
      simp [tokEq, Tok.core, and_assoc]

theorem lexFrom_shift (f : Nat) (l : List UInt8) (p q : Nat) (acc : List Tok) :
    (lexFrom f l p acc).err = (lexFrom f l q []).err ∧ ((lexFrom f l p acc).err = 0 → (lexFrom f l p acc).at' = 0 ∧ (lexFrom f l p acc).toks.map Tok.core = acc.map Tok.core ++ (lexFrom f l q []).toks.map Tok.core) := by
  induction f generalizing l p q acc with
  | zero => simp [lexFrom]
  | succ f ih =>
    simp only [lexFrom]
    split
    · simp
    · rename_i c t hd
      split
      · rename_i e ho
        have := oneL_err ho
        refine ⟨rfl, fun h => ?_⟩
        simp only at h
        subst h
        simp at this
      · rename_i k n v ho
        have h1 := ih ((c :: t).drop n) (p + gapS false l + n) (q + gapS false l + n) (acc ++ [⟨k, (c :: t).take n, v, (p + gapS false l : Nat)⟩])
        have h2 := ih ((c :: t).drop n) (q + gapS false l + n) (q + gapS false l + n) ([] ++ [⟨k, (c :: t).take n, v, (q + gapS false l : Nat)⟩])
        refine ⟨h1.1.trans h2.1.symm, fun h => ?_⟩
        have h3 := h1.2 h
        have h4 := h2.2 (by rw [h2.1, ← h1.1]; exact h)
        refine ⟨h3.1, ?_⟩
        rw [h3.2, h4.2]
        simp [Tok.core]

/-- What a token is does not hang on what stands behind a line's end, or a blank. -/
theorem runLen_end (p : Int → Bool) (l : List UInt8) (b : UInt8) (t : List UInt8) (hb : p b.toNat = false) : runLen p (l ++ b :: t) = runLen p l := by
  induction l with
  | nil => simp [runLen, hb]
  | cons a s ih =>
    rw [List.cons_append, runLen_cons, runLen_cons, ih]

theorem signLen_end (c : UInt8) (l : List UInt8) (b : UInt8) (t : List UInt8) (hb : b = 10 ∨ b = 32) : signLen (c :: l ++ b :: t) = signLen (c :: l) := by
  rcases l with _ | ⟨d, l⟩
  · have h1 : signs2.contains ((c :: [] ++ b :: t).take 2) = false := by
      rw [Bool.eq_false_iff]
      intro h
      have h := List.contains_iff_mem.1 h
      simp only [List.cons_append, List.nil_append, List.take_succ_cons, List.take_zero, signs2, List.mem_cons, List.cons.injEq, List.not_mem_nil, or_false] at h
      rcases hb with rfl | rfl <;> simp at h
    have h2 : signs2.contains ((c :: ([] : List UInt8)).take 2) = false := by
      rw [Bool.eq_false_iff]
      intro h
      have h := List.contains_iff_mem.1 h
      simp [signs2] at h
    unfold signLen
    rw [h1, h2]
    rfl
  · rfl

theorem take_end (l : List UInt8) (n : Nat) (b : UInt8) (t : List UInt8) (h : n ≤ l.length) : (l ++ b :: t).take n = l.take n := by rw [List.take_append_of_le_length h]

theorem oneL_end (c : UInt8) (l : List UInt8) (b : UInt8) (t : List UInt8) (hb : b = 10 ∨ b = 32) : oneL (c :: l ++ b :: t) = oneL (c :: l) := by
  have hw : wordB b.toNat = false := by rcases hb with rfl | rfl <;> rfl
  have hd : digitB b.toNat = false := by rcases hb with rfl | rfl <;> rfl
  have e1 := runLen_end wordB (c :: l) b t hw
  have e2 := runLen_end digitB (c :: l) b t hd
  have e3 := signLen_end c l b t hb
  have e4 : (c :: l ++ b :: t).take (runLen digitB (c :: l)) = (c :: l).take (runLen digitB (c :: l)) := take_end _ _ _ _ (runLen_le _ _)
  simp only [List.cons_append] at e1 e2 e3 e4 ⊢
  simp only [oneL, e1, e2, e3, e4]

theorem gapS_end (m : Bool) (l : List UInt8) (t : List UInt8) : gapS m (l ++ 10 :: t) = if gapS m l < l.length then gapS m l else l.length + 1 + gapS false t := by
  induction l generalizing m with
  | nil => cases m <;> simp [gapS, blankB]
  | cons c l ih =>
    cases m with
    | true =>
      simp only [List.cons_append, gapS, List.length_cons]
      split
      · rw [ih]; split <;> split <;> omega
      · rw [ih]; split <;> split <;> omega
    | false =>
      simp only [List.cons_append, gapS, List.length_cons]
      split
      · rw [ih]; split <;> split <;> omega
      · split
        · rw [ih]; split <;> split <;> omega
        · simp

/-- A text that is right, and another one behind its line. -/
theorem lexFrom_line (f g : Nat) (l t : List UInt8) (p : Nat) (acc : List Tok) (hf : l.length < f) (hg : (l ++ 10 :: t).length < g) (h : (lexFrom f l p acc).err = 0) :
    ∃ q, lexFrom g (l ++ 10 :: t) p acc = lexFrom (t.length + 1) t q (lexFrom f l p acc).toks := by
  induction f generalizing g l p acc with
  | zero => omega
  | succ f ih =>
    cases g with
    | zero => omega
    | succ g =>
      have hgl := gapS_le false l
      simp only [lexFrom] at h ⊢
      rw [gapS_end]
      by_cases hlt : gapS false l < l.length
      · rw [if_pos hlt]
        have hd : (l ++ 10 :: t).drop (gapS false l) = l.drop (gapS false l) ++ 10 :: t := by rw [List.drop_append_of_le_length (by omega)]
        rw [hd]
        rcases hl : l.drop (gapS false l) with _ | ⟨c, u⟩
        · have := congrArg List.length hl
          rw [List.length_drop] at this
          simp at this; omega
        · rw [hl] at h
          have hlen := congrArg List.length hl
          rw [List.length_drop] at hlen
          simp only [List.cons_append] at h ⊢
          have ho2 := oneL_end c u 10 t (.inl rfl)
          simp only [List.cons_append] at ho2
          rw [ho2]
          cases ho : oneL (c :: u) with
          | err e =>
            rw [ho] at h
            have := oneL_err ho
            simp only at h
            subst h
            simp at this
          | tok k n v =>
            rw [ho] at h
            simp only at h ⊢
            have hn := oneL_len ho
            have e1 : (c :: (u ++ 10 :: t)).drop n = (c :: u).drop n ++ 10 :: t := by
              rw [← List.cons_append, List.drop_append_of_le_length hn.2]
            have e2 : (c :: (u ++ 10 :: t)).take n = (c :: u).take n := by
              rw [← List.cons_append, take_end _ _ _ _ hn.2]
            rw [e1, e2]
            exact ih g _ _ _ (by rw [List.length_drop]; omega) (by simp only [List.length_append, List.length_drop, List.length_cons] at hg ⊢; simp only [List.length_cons] at hlen; omega) h
      · rw [if_neg hlt]
        have hge : gapS false l = l.length := by omega
        have hd0 : l.drop (gapS false l) = [] := List.drop_eq_nil_of_le (by omega)
        rw [hd0]
        have hd : (l ++ 10 :: t).drop (l.length + 1 + gapS false t) = t.drop (gapS false t) := by
          rw [show l.length + 1 + gapS false t = l.length + (1 + gapS false t) by omega, ← List.drop_drop, List.drop_left, Nat.add_comm 1, List.drop_succ_cons]
        rw [hd]
        refine ⟨p + l.length + 1, ?_⟩
        rcases ht : t.drop (gapS false t) with _ | ⟨c, u⟩
        · simp
        · have hlen := congrArg List.length ht
          rw [List.length_drop] at hlen
          have hgt := gapS_le false t
          simp only
          cases ho : oneL (c :: u) with
          | err e => simp only; congr 1; omega
          | tok k n v =>
            have hn := oneL_len ho
            simp only
            have e1 : p + (l.length + 1 + gapS false t) = p + l.length + 1 + gapS false t := by omega
            rw [e1]
            simp only [List.length_append, List.length_cons] at hg hlen hn
            exact lexFrom_fuel _ _ _ _ _ (by rw [List.length_drop]; simp only [List.length_cons]; omega) (by rw [List.length_drop]; simp only [List.length_cons]; omega)

theorem scan_joins {a b : List UInt8} (ha : a.length ≤ 1500) (hb : b.length ≤ 1500) (h1 : (scanL a).err = 0) (h2 : (scanL b).err = 0) :
    (scanL (a ++ 10 :: b)).err = 0 ∧ toksEq false (scanL (a ++ 10 :: b)).toks ((scanL a).toks ++ (scanL b).toks) = true := by
  unfold scanL at *
  rw [if_neg (by omega)] at h1 h2
  rw [if_neg (by simp only [List.length_append, List.length_cons]; omega), if_neg (by omega), if_neg (by omega)]
  obtain ⟨q, hq⟩ := lexFrom_line (a.length + 1) ((a ++ 10 :: b).length + 1) a b 0 [] (by omega) (by omega) h1
  have hs := lexFrom_shift (b.length + 1) b q 0 (lexFrom (a.length + 1) a 0 []).toks
  rw [hq]
  have he : (lexFrom (b.length + 1) b q (lexFrom (a.length + 1) a 0 []).toks).err = 0 := hs.1.trans h2
  refine ⟨he, ?_⟩
  rw [toksEq_core, (hs.2 he).2, List.map_append]

end Go.Proofs.Ytnmlejjdofbaiaa
