/- Parts of the proofs of the laws of layer 1, scan (text ScanS). Conditions: none. -/
import Derived.Test.YtnmlejjdofbaiaaScanR
import Derived.Test.YtnmlejjdofbaiaaPlainBack
import Derived.Test.YtnmlejjdofbaiaaOpenTok
/- The walks of ScanNames and ScanTells. -/
namespace Go.Proofs.Ytnmlejjdofbaiaa
open Go.RowKit

theorem go_known {w0 w : World} (P : Ending → World → Prop) (hb : Below w0.heap.size w0 w) (h : ∀ w', Below w0.heap.size w0 w' → P (.returned (.bool true)) w') : Calls Try.prog 8 #[] w P :=
  (known_ends (w0 := w0) hb).mono fun e w' ⟨he, hb⟩ => by subst he; exact h w' hb

theorem nameB_ne_kw {l : List UInt8} (h : nameB l = true) : kwB l = false := by
  simp only [nameB, Bool.and_eq_true, Bool.not_eq_true'] at h
  exact h.2

/-- Is what is told of a text one Ident, that is it? -/
def oneB (r : ScanRes) (l : List UInt8) : Bool := match r.toks with | [t] => decide (r.err = 0) && decide (t.kind = 1) && decide (t.text = l) | _ => false

theorem one_iff (l : List UInt8) : oneB (scanL l) l = (nameB l || kwB l) := by
  rw [Bool.eq_iff_iff, Bool.or_eq_true]
  constructor
  · intro h
    unfold oneB at h
    split at h
    · rename_i t ht
      simp only [Bool.and_eq_true, decide_eq_true_eq] at h
      have hw := word_of_scan h.1.1 ht h.1.2 h.2
      by_cases hk : kwB l = true
      · exact .inr hk
      · exact .inl (name_of_word hw (by simpa using hk))
    · simp at h
  · intro h
    have hw : wordL l := by
      rcases h with h | h
      · exact word_of_name h
      · exact word_of_kw h
    rw [scan_word hw]
    simp [oneB]

set_option maxRecDepth 100000 in
set_option maxHeartbeats 4000000 in
theorem scanNames_walk (w : World) (s : ByteArray) (hs : s.size ≤ maxLen) : Calls Try.prog 6 #[.string s] w (LawPost w) := by
  unfold maxLen at hs
  by_cases hbig : 300 < s.size
  · go_enter Try.func6, Try.ntmps6
    go_wp2_with fail
    refine go_known (w0 := w) _ (Below.refl _ _) fun w1 hb => ?_
    go_wp2
    go_ret
    exact ⟨rfl, hb⟩
  · have HI := Lib.hid (one_iff s.data.toList)
    obtain ⟨r, hr⟩ : ∃ r, scanL s.data.toList = r := ⟨_, rfl⟩
    have HR := Lib.hid hr; clear hr
    -- the tail: whatever 'one' is, it is as it should be
    have hne : nameB s.data.toList = true → kwB s.data.toList = false := nameB_ne_kw
    have HNE := Lib.hid hne; clear hne
    go_enter Try.func6, Try.ntmps6
    go_wp2_with fail
    refine (scan_any s _).mono ?_
    rintro e w1 ⟨v1, rfl, ho1, hb1⟩
    rw [HR.out] at ho1 HI ⊢
    have ht := Arr.of_owns ho1
    have HB1 := Lib.hid hb1
    have hz1 := hb1.size
    clear ho1 hb1
    obtain ⟨a, c, rfl, hc⟩ := Toks.view (l := r.toks) ht
    have hlen : r.toks.length ≤ 9223372036854775807 := by
      obtain ⟨_, a, cap, _, ⟨h1, h2, _⟩, _⟩ := ht
      unfold maxLen at h2; omega
    clear ht
    have HC := Lib.hid hc; clear hc
    -- 'one', decided
    have hone : ∃ b : Bool, oneB r s.data.toList = b ∧ ((b = true ∧ r.err = 0 ∧ ∃ t, r.toks = [t] ∧ t.kind = 1 ∧ t.text = s.data.toList) ∨ (b = false ∧ (r.err ≠ 0 ∨ r.toks.length ≠ 1 ∨ ∃ t, r.toks = [t] ∧ (t.kind ≠ 1 ∨ t.text ≠ s.data.toList)))) := by
      refine ⟨_, rfl, ?_⟩
      cases hb : oneB r s.data.toList with
      | true =>
        left
        unfold oneB at hb
        split at hb
        · rename_i t ht
          simp only [Bool.and_eq_true, decide_eq_true_eq] at hb
          exact ⟨rfl, hb.1.1, t, ht, hb.1.2, hb.2⟩
        · simp at hb
      | false =>
        right
        refine ⟨rfl, ?_⟩
        unfold oneB at hb
        split at hb
        · rename_i t ht
          by_cases h1 : r.err = 0
          · right; right
            refine ⟨t, ht, ?_⟩
            by_cases h2 : t.kind = 1
            · by_cases h3 : t.text = s.data.toList
              · simp [h1, h2, h3] at hb
              · exact .inr h3
            · exact .inl h2
          · exact .inl h1
        · rename_i hno
          right; left
          intro h1
          rcases hl : r.toks with _ | ⟨t, _ | ⟨u, q⟩⟩
          · rw [hl] at h1; simp at h1
          · exact hno t hl
          · rw [hl] at h1; simp at h1
    obtain ⟨b, hb, hcase⟩ := hone
    rw [hb] at HI
    clear hb
    rcases hcase with ⟨rfl, he, hex⟩ | ⟨rfl, hno⟩
    · obtain ⟨t, ht, h1, h2⟩ := hex
      have hl1 : r.toks.length = 1 := by rw [ht]; rfl
      obtain ⟨b0, o0, rfl, x1, x2, _, _⟩ := HC.out 0 (by omega)
      have e0 : r.toks[0]'(by omega) = t := by simp [ht]
      rw [e0, h1] at x1
      rw [e0, h2] at x2
      have d0 : (r.err == 0) = true := by rw [he]; rfl
      have d1 : (s.data.toList == s.toList) = true := by rw [ByteArray.toList_eq]; exact list_eq rfl
      simp only [Nat.zero_mul, Nat.add_zero] at x1 x2
      clear e0 h1 h2 ht he
      by_cases n1 : nameB s.data.toList = true
      · have k1 := HNE.out n1
        go_wp2_with fail
        refine (name_any s _ hs).mono ?_
        rintro e w2 ⟨rfl, hb2⟩
        have HB2 := Lib.hid (HB1.out.trans (hb2.mono HB1.out.size)); clear hb2
        go_wp2_with fail
        refine (name_any s _ hs).mono ?_
        rintro e w3 ⟨rfl, hb3⟩
        have HB3 := Lib.hid (HB2.out.trans (hb3.mono HB2.out.size)); clear hb3
        go_wp2_with fail
        refine (keyword_any s _).mono ?_
        rintro e wk ⟨rfl, rfl⟩
        go_wp2_with fail
        refine go_known (w0 := w) _ HB3.out fun w9 hb => ?_
        go_wp2
        go_ret
        exact ⟨rfl, hb⟩
      · have n1' : nameB s.data.toList = false := by simpa using n1
        have k1 : kwB s.data.toList = true := by have := HI.out; rw [n1'] at this; simpa using this.symm
        clear n1
        go_wp2_with fail
        refine (name_any s _ hs).mono ?_
        rintro e w2 ⟨rfl, hb2⟩
        have HB2 := Lib.hid (HB1.out.trans (hb2.mono HB1.out.size)); clear hb2
        go_wp2_with fail
        refine (keyword_any s _).mono ?_
        rintro e wk ⟨rfl, rfl⟩
        go_wp2_with fail
        refine (name_any s _ hs).mono ?_
        rintro e w3 ⟨rfl, hb3⟩
        have HB3 := Lib.hid (HB2.out.trans (hb3.mono HB2.out.size)); clear hb3
        go_wp2_with fail
        refine go_known (w0 := w) _ HB3.out fun w9 hb => ?_
        go_wp2
        go_ret
        exact ⟨rfl, hb⟩
    · have n1 : nameB s.data.toList = false := by
        have h := HI.out
        cases hn : nameB s.data.toList with
        | false => rfl
        | true => rw [hn] at h; simp at h
      have k1 : kwB s.data.toList = false := by have := HI.out; rw [n1] at this; simpa using this.symm
      by_cases he : r.err = 0
      · have d0 : (r.err == 0) = true := by rw [he]; rfl
        by_cases hl1 : r.toks.length = 1
        · obtain ⟨t, ht⟩ : ∃ t, r.toks = [t] := by
            rcases hl : r.toks with _ | ⟨t, _ | ⟨u, q⟩⟩
            · rw [hl] at hl1; simp at hl1
            · exact ⟨t, rfl⟩
            · rw [hl] at hl1; simp at hl1
          have hkt : t.kind ≠ 1 ∨ t.text ≠ s.data.toList := by
            rcases hno with h | h | ⟨t2, h, h2⟩
            · exact absurd he h
            · exact absurd hl1 h
            · rw [ht] at h
              simp only [List.cons.injEq, and_true] at h
              subst h
              exact h2
          obtain ⟨b0, o0, rfl, x1, x2, _, _⟩ := HC.out 0 (by omega)
          have e0 : r.toks[0]'(by omega) = t := by simp [ht]
          rw [e0] at x1 x2
          simp only [Nat.zero_mul, Nat.add_zero] at x1 x2
          clear e0 ht he hno
          by_cases hk : t.kind = 1
          · have d1 : (t.kind == 1) = true := by rw [hk]; rfl
            have d2 : (t.text == s.toList) = false := by
              rw [ByteArray.toList_eq]
              exact list_ne (by rcases hkt with h | h; exact absurd hk h; exact h)
            clear hk hkt
            go_wp2_with fail
            refine (name_any s _ hs).mono ?_
            rintro e w2 ⟨rfl, hb2⟩
            have HB2 := Lib.hid (HB1.out.trans (hb2.mono HB1.out.size)); clear hb2
            go_wp2_with fail
            refine (keyword_any s _).mono ?_
            rintro e wk ⟨rfl, rfl⟩
            go_wp2_with fail
            refine (name_any s _ hs).mono ?_
            rintro e w3 ⟨rfl, hb3⟩
            have HB3 := Lib.hid (HB2.out.trans (hb3.mono HB2.out.size)); clear hb3
            go_wp2_with fail
            refine go_known (w0 := w) _ HB3.out fun w9 hb => ?_
            go_wp2
            go_ret
            exact ⟨rfl, hb⟩
          · have d1 : (t.kind == 1) = false := by simpa using hk
            clear hk hkt
            go_wp2_with fail
            refine (name_any s _ hs).mono ?_
            rintro e w2 ⟨rfl, hb2⟩
            have HB2 := Lib.hid (HB1.out.trans (hb2.mono HB1.out.size)); clear hb2
            go_wp2_with fail
            refine (keyword_any s _).mono ?_
            rintro e wk ⟨rfl, rfl⟩
            go_wp2_with fail
            refine (name_any s _ hs).mono ?_
            rintro e w3 ⟨rfl, hb3⟩
            have HB3 := Lib.hid (HB2.out.trans (hb3.mono HB2.out.size)); clear hb3
            go_wp2_with fail
            refine go_known (w0 := w) _ HB3.out fun w9 hb => ?_
            go_wp2
            go_ret
            exact ⟨rfl, hb⟩
        · have d1 : ((r.toks.length : Int) == 1) = false := by rw [beq_eq_false_iff_ne]; omega
          clear he hl1 hno
          go_wp2_with fail
          refine (name_any s _ hs).mono ?_
          rintro e w2 ⟨rfl, hb2⟩
          have HB2 := Lib.hid (HB1.out.trans (hb2.mono HB1.out.size)); clear hb2
          go_wp2_with fail
          refine (keyword_any s _).mono ?_
          rintro e wk ⟨rfl, rfl⟩
          go_wp2_with fail
          refine (name_any s _ hs).mono ?_
          rintro e w3 ⟨rfl, hb3⟩
          have HB3 := Lib.hid (HB2.out.trans (hb3.mono HB2.out.size)); clear hb3
          go_wp2_with fail
          refine go_known (w0 := w) _ HB3.out fun w9 hb => ?_
          go_wp2
          go_ret
          exact ⟨rfl, hb⟩
      · have d0 : (r.err == 0) = false := by simpa using he
        clear he hno
        go_wp2_with fail
        refine (name_any s _ hs).mono ?_
        rintro e w2 ⟨rfl, hb2⟩
        have HB2 := Lib.hid (HB1.out.trans (hb2.mono HB1.out.size)); clear hb2
        go_wp2_with fail
        refine (keyword_any s _).mono ?_
        rintro e wk ⟨rfl, rfl⟩
        go_wp2_with fail
        refine (name_any s _ hs).mono ?_
        rintro e w3 ⟨rfl, hb3⟩
        have HB3 := Lib.hid (HB2.out.trans (hb3.mono HB2.out.size)); clear hb3
        go_wp2_with fail
        refine go_known (w0 := w) _ HB3.out fun w9 hb => ?_
        go_wp2
        go_ret
        exact ⟨rfl, hb⟩

end Go.Proofs.Ytnmlejjdofbaiaa
