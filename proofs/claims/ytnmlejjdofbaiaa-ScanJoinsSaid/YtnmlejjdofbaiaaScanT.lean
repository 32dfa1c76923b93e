/- Parts of the proofs of the laws of layer 1, scan (text ScanT). Conditions: none. -/
import Derived.Test.YtnmlejjdofbaiaaScanR
import Derived.Test.YtnmlejjdofbaiaaPlainBack
/- The walk of ScanJoins. -/
namespace Go.Proofs.Ytnmlejjdofbaiaa
open Go.RowKit

theorem toks_app (a b : List Tok) : tokCells (a ++ b) = tokCells a ++ tokCells b := by simp [tokCells]
theorem toks_oneCell (a : List Tok) : ∀ u ∈ tokCells a, u.oneCell' = true := by
  intro u hu
  simp only [tokCells, List.mem_flatMap] at hu
  obtain ⟨t, _, ht⟩ := hu
  simp only [Tok.cells, List.mem_cons, List.not_mem_nil, or_false] at ht
  rcases ht with rfl | rfl | rfl | rfl <;> rfl

theorem bs_data (s : ByteArray) : s = bs s.data.toList := rfl
theorem line_join (a b : ByteArray) : a ++ ⟨#[10]⟩ ++ b = bs (a.data.toList ++ 10 :: b.data.toList) := by
  apply ByteArray.ext
  simp [ByteArray.data_append]

set_option maxRecDepth 100000 in
set_option maxHeartbeats 4000000 in
theorem scanJoins_walk (w : World) (s : ByteArray) (hs : s.size ≤ maxLen) (t : ByteArray) (ht : t.size ≤ maxLen) : Calls Try.prog 7 #[.string s, .string t] w (LawPost w) := by
  unfold maxLen at hs ht
  by_cases hbig : 1500 < s.size ∨ 1500 < t.size
  · by_cases h1 : 1500 < s.size
    all_goals
      go_enter Try.func7, Try.ntmps7
      have h2 : 1500 < s.size ∨ 1500 < t.size := hbig
      clear hbig
      first | (have h3 : 1500 < t.size := by omega) | skip
      clear h2
      go_wp2_with fail
      refine (known_ends (Below.refl _ _)).mono ?_
      rintro e w1 ⟨rfl, hb⟩
      go_wp2
      go_ret
      exact ⟨rfl, hb⟩
  · have hs1 : s.size ≤ 1500 := by omega
    have ht1 : t.size ≤ 1500 := by omega
    clear hbig
    have HJ := Lib.hid (fun h1 h2 => scan_joins (a := s.data.toList) (b := t.data.toList) (by rw [len_toList]; exact hs1) (by rw [len_toList]; exact ht1) h1 h2)
    obtain ⟨r1, hr1⟩ : ∃ r, scanL s.data.toList = r := ⟨_, rfl⟩
    obtain ⟨r2, hr2⟩ : ∃ r, scanL t.data.toList = r := ⟨_, rfl⟩
    rw [hr1, hr2] at HJ
    have hcnt1 : r1.toks.length ≤ 1500 := by rw [← hr1]; have := scan_count s.data.toList; rw [len_toList] at this; omega
    have hcnt2 : r2.toks.length ≤ 1500 := by rw [← hr2]; have := scan_count t.data.toList; rw [len_toList] at this; omega
    have HR1 := Lib.hid hr1; have HR2 := Lib.hid hr2; clear hr1 hr2
    obtain ⟨i0, hi, hi0, hi1, hi2⟩ := info_parts info_tok
    go_enter Try.func7, Try.ntmps7
    go_wp2_with fail
    refine (scan_any s _).mono ?_
    rintro e w1 ⟨v1, rfl, ho1, hb1⟩
    rw [HR1.out] at ho1 ⊢
    go_wp2_with fail
    refine (scan_any t _).mono ?_
    rintro e w2 ⟨v2, rfl, ho2, hb2⟩
    rw [HR2.out] at ho2 ⊢
    have hz1 := hb1.size; have hz2 := hb2.size
    have HB := Lib.hid (hb1.trans (hb2.mono hz1))
    have ha1 := Arr.of_owns (owns_below ho1 hb2)
    have ha2 := Arr.of_owns ho2
    have hl1 := owns_len ho1; have hl2 := owns_len ho2
    have HA1 := Lib.hid ha1; have HA2 := Lib.hid ha2
    clear ho1 ho2 hb1 hb2 ha1 ha2
    by_cases h1 : r1.err = 0
    · by_cases h2 : r2.err = 0
      · have J := HJ.out h1 h2
        obtain ⟨r3, hr3⟩ : ∃ r, scanL (s.data.toList ++ 10 :: t.data.toList) = r := ⟨_, rfl⟩
        rw [hr3] at J
        obtain ⟨j1, j2⟩ := J
        have HR3 := Lib.hid hr3; have HJ2 := Lib.hid j2; clear hr3 j2
        have d1 : (r1.err != 0) = false := by rw [h1]; rfl
        have d2 : (r2.err != 0) = false := by rw [h2]; rfl
        clear h1 h2
        go_wp2_with fail
        rw [line_join]
        refine (scan_any _ _).mono ?_
        rintro e w3 ⟨v3, rfl, ho3, hb3⟩
        have e3 : (bs (s.data.toList ++ 10 :: t.data.toList)).data.toList = s.data.toList ++ 10 :: t.data.toList := rfl
        rw [e3, HR3.out] at ho3 ⊢
        clear e3
        have hz3 := hb3.size
        have HA3 := Lib.hid (Arr.of_owns ho3)
        have hl3 := owns_len ho3
        have HA1' := Lib.hid (HA1.out.mono hb3); have HA2' := Lib.hid (HA2.out.mono hb3)
        have HB3 := Lib.hid (HB.out.trans (hb3.mono (by omega)))
        clear ho3 hb3
        have d3 : (r3.err == 0) = true := by rw [j1]; rfl
        clear j1
        go_wp2_with (at_builtin; refine wpList_append_arr rfl _ _ 23 rfl w3.heap.size 29 i0 _ 4 40 Try.underlying23 hi hi0 hi1 hi2 rfl (by decide) _ 0 [] rfl (World.ownsRow_nil _ _ _ _) _ _ _ rfl HA1'.out (toks_oneCell _) ?a1 ?a2 ?a3 ?_)
        case a1 => unfold maxLen; omega
        case a2 => omega
        case a3 => exact Nat.le_refl _
        intro v4 w4 ho4 hg4
        have hb4 : Below w3.heap.size w3 w4 := Below.grown (Below.refl _ _) hg4 (Nat.le_refl _) (by simp [Value.ownBlock])
        have hz4 := hb4.size
        have HA2'' := Lib.hid (HA2'.out.mono hb4); have HA3' := Lib.hid (HA3.out.mono hb4)
        have HB4 := Lib.hid (HB3.out.trans (hb4.mono (by omega))); have HB34 := Lib.hid hb4
        try simp only [Nat.zero_add, List.nil_append] at ho4
        have HO4 := Lib.hid ho4
        clear ho4 hg4 hb4
        go_wp2_with (at_builtin; refine wpList_append_arr rfl _ _ 23 rfl w3.heap.size 29 i0 _ 4 40 Try.underlying23 hi hi0 hi1 hi2 rfl (by decide) _ _ _ rfl HO4.out _ _ _ rfl HA2''.out (toks_oneCell _) ?b1 ?b2 ?b3 ?_)
        case b1 => unfold maxLen; omega
        case b2 => omega
        case b3 => exact hz4
        intro v5 w5 ho5 hg5
        have hb5 : Below w3.heap.size w4 w5 := Below.grown (Below.refl _ _) hg5 hz4 (fun k hk => (HO4.out.lt k hk).1)
        have hz5 := hb5.size
        have HB5 := Lib.hid (HB4.out.trans (hb5.mono (by omega)))
        have ho5' : w5.ownsRow w3.heap.size 29 4 v5 (r1.toks ++ r2.toks).length (tokCells (r1.toks ++ r2.toks)) := by
          rw [toks_app, List.length_append]; exact ho5
        have HA5 := Lib.hid (Arr.of_owns ho5')
        have hl5 := owns_len ho5'
        have HA3'' : Hid (Toks w5 v3 r3.toks) := by
          have h1 : Arr w3 4 v3 r3.toks.length (tokCells r3.toks) := HA3.out
          refine ⟨h1.1, ?_⟩
          obtain ⟨_, a, cap, hv, hp, hc⟩ := h1
          refine ⟨a, cap, hv, hp, fun j u hj => ?_⟩
          obtain ⟨b, off, e, hcell⟩ := hc j u hj
          have hlt := World.block_lt_of_cell? _ _ hcell
          refine ⟨b, off, e, ?_⟩
          have h4 := (HB34.out.cell (p := ⟨b, off + j, none⟩) hlt).trans hcell
          exact (hb5.cell (p := ⟨b, off + j, none⟩) hlt).trans h4
        clear ho5 hg5 ho5' hb5
        go_wp2_with fail
        refine (same_any r3.toks (r1.toks ++ r2.toks) v3 v5 false _ HA3''.out HA5.out hl3 hl5).mono ?_
        rintro e w6 ⟨rfl, n6, rfl⟩
        rw [HJ2.out]
        go_wp2_with fail
        refine (known_ends (w0 := w) (below_drewN HB5.out _)).mono ?_
        rintro e w7 ⟨rfl, hb⟩
        go_wp2
        go_ret
        exact ⟨rfl, hb⟩
      · have d1 : (r1.err != 0) = false := by rw [h1]; rfl
        have d2 : (r2.err != 0) = true := by simpa using h2
        clear h1 h2
        go_wp2_with fail
        refine (known_ends (w0 := w) HB.out).mono ?_
        rintro e w7 ⟨rfl, hb⟩
        go_wp2
        go_ret
        exact ⟨rfl, hb⟩
    · have d1 : (r1.err != 0) = true := by simpa using h1
      clear h1
      go_wp2_with fail
      refine (known_ends (w0 := w) HB.out).mono ?_
      rintro e w7 ⟨rfl, hb⟩
      go_wp2
      go_ret
      exact ⟨rfl, hb⟩

end Go.Proofs.Ytnmlejjdofbaiaa
