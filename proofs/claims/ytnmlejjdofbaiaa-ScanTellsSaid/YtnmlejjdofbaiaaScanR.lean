/- Parts of the proofs of the laws of layer 1, scan (text ScanR). Conditions: none. -/
import Derived.Test.YtnmlejjdofbaiaaScanQ
/- The walks of the laws of layer 1. -/
namespace Go.Proofs.Ytnmlejjdofbaiaa
open Go.RowKit

def LawPost (w : World) (e : Ending) (w' : World) : Prop := e = .returned (.bool true) ∧ Below w.heap.size w w'

theorem known_ends {w0 w : World} (hb : Below w0.heap.size w0 w) : Calls Try.prog 8 #[] w (LawPost w0) :=
  (known_any w).mono fun _ _ ⟨he, h⟩ => ⟨he, hb.trans (h.mono hb.size)⟩

/-- A store into an owned row. -/
theorem owns_store {w : World} {base : Nat} {e : TypeId} {size : Nat} {v : Value} {n : Nat} {xs : List Value} (h : w.ownsRow base e size v n xs) (hn : 0 < n) :
    ∃ g cap, v = .slice (some ⟨g, 0, none⟩) n cap ∧ base ≤ g ∧ g < w.heap.size ∧ (∀ j, j < n * size → ∃ u, w.cell? ⟨g, j, none⟩ = some u) ∧ (∀ j, w.frozen? ⟨g, j, none⟩ = false) ∧
      ∀ j u, ∃ ys, (w.setCell ⟨g, j, none⟩ u).ownsRow base e size v n ys := by
  have hl := h.1
  have h' := h
  rcases h.2 with ⟨_, h0⟩ | ⟨g, cap, cur, rfl, hb, hg, _⟩
  · omega
  · refine ⟨g, cap, rfl, hb, (Array.getElem?_eq_some_iff.1 hg).1, fun j hj => ?_, fun j => h'.frozenAt j, fun j u => ⟨_, (h'.stored j u).1⟩⟩
    rw [h'.cellAt j hj]
    exact ⟨xs[j]'(by omega), by rw [List.getElem?_eq_getElem]⟩

theorem owns_len {w : World} {base : Nat} {e : TypeId} {size : Nat} {v : Value} {n : Nat} {xs : List Value} (h : w.ownsRow base e size v n xs) : n ≤ 9223372036854775807 := by
  rcases h.2 with ⟨_, h0⟩ | ⟨g, cap, cur, rfl, hb, hg, h1, h2, _⟩
  · omega
  · unfold maxLen at h2; omega

theorem owns_slice {w : World} {base : Nat} {e : TypeId} {size : Nat} {v : Value} {n : Nat} {xs : List Value} (h : w.ownsRow base e size v n xs) : ∃ a cap, v = .slice a n cap := by
  rcases h.2 with ⟨rfl, h0⟩ | ⟨g, cap, cur, rfl, hb, hg, h1, h2, _⟩
  · subst h0; exact ⟨none, 0, rfl⟩
  · exact ⟨_, cap, rfl⟩

theorem own_ne {w1 w2 : World} {b1 : Nat} {e : TypeId} {size : Nat} {v v2 : Value} {n n2 : Nat} {xs ys : List Value} (h1 : w1.ownsRow b1 e size v n xs) (h2 : w2.ownsRow w1.heap.size e size v2 n2 ys) {g : Nat} (hg : v.ownBlock = some g) : v2.ownBlock ≠ some g := by
  intro e
  have := h1.lt g hg
  have := h2.lt g e
  omega

set_option maxRecDepth 100000 in
set_option maxHeartbeats 4000000 in
theorem scanScans_walk (w : World) (s : ByteArray) (hs : s.size ≤ maxLen) : Calls Try.prog 3 #[.string s] w (LawPost w) := by
  unfold maxLen at hs
  by_cases hbig : 3000 < s.size
  · go_enter Try.func3, Try.ntmps3
    go_wp2_with fail
    refine (known_ends (Below.refl _ _)).mono ?_
    rintro e w1 ⟨rfl, hb⟩
    go_wp2
    go_ret
    exact ⟨rfl, hb⟩
  · go_enter Try.func3, Try.ntmps3
    go_wp2_with fail
    refine (scan_any s _).mono ?_
    rintro e w1 ⟨v1, rfl, ho1, hb1⟩
    go_wp2_with fail
    refine (refScan_any s _).mono ?_
    rintro e w2 ⟨v2, rfl, ho2, hb2⟩
    obtain ⟨r, hr⟩ : ∃ r, scanL s.data.toList = r := ⟨_, rfl⟩
    rw [hr] at ho1 ho2 ⊢
    have HR := Lib.hid hr; clear hr
    have hz1 := hb1.size; have hz2 := hb2.size
    have HB := Lib.hid (hb1.trans (hb2.mono hz1))
    have ho1' := owns_below ho1 hb2
    have HO1 := Lib.hid ho1'; have HO2 := Lib.hid ho2; have HO0 := Lib.hid ho1
    clear ho1 ho2 ho1' hb1 hb2
    have hlen := owns_len HO1.out
    obtain ⟨a1, c1, rfl⟩ := owns_slice HO1.out
    go_wp2_with fail
    have hsame := toksEq_refl true r.toks
    refine (same_any r.toks r.toks _ v2 true _ (Arr.of_owns HO1.out) (Arr.of_owns HO2.out) hlen hlen).mono ?_
    rintro e w3 ⟨rfl, n3, rfl⟩
    rw [hsame]
    clear hsame
    go_wp2
    go_loopw [10] (fun i wr => ∃ (k : Nat) (xs : List Value), i = .int .i64 k ∧ k ≤ r.toks.length ∧ wr.ownsRow w.heap.size 29 4 (.slice a1 r.toks.length c1) r.toks.length xs ∧ wr.ownsRow w1.heap.size 29 4 v2 r.toks.length (tokCells r.toks) ∧ Below w.heap.size w wr) (fun i _ => r.toks.length - (intOf i).toNat)
    case atStart => exact ⟨0, _, rfl, by omega, owns_below HO1.out (below_drewN (Below.refl _ _) _), owns_below HO2.out (below_drewN (Below.refl _ _) _), below_drewN HB.out _⟩
    case round =>
      obtain ⟨k, xs, rfl, hk, hx1, hx2, hx3⟩ := hrel
      have X1 := Lib.hid hx1; have X2 := Lib.hid hx2; have X3 := Lib.hid hx3
      have hz4 := hx3.size
      clear hx1 hx2 hx3
      by_cases hlt : k < r.toks.length
      · obtain ⟨g, cap, e1, hg1, hg2, hcell, hfro, hset⟩ := owns_store X1.out (by omega)
        cases e1
        obtain ⟨u, hu⟩ := hcell (k * 4) (by omega)
        have hf := hfro (k * 4)
        have HS := Lib.hid hset
        have HN := Lib.hid (own_ne HO0.out HO2.out (g := g) rfl)
        clear hcell hfro hset
        go_wp2
        go_roundw
        case rel =>
          obtain ⟨ys, hys⟩ := HS.out (k * 4) (.int .i64 99)
          exact ⟨k + 1, ys, by go_num, by omega, hys, ownsRow_setCell_other X2.out (a := ⟨g, k * 4, none⟩) HN.out _, X3.out.setCell hg1 _⟩
        case measure => simp [intOf]; omega
      · go_wp2_with fail
        refine (scan_any s _).mono ?_
        rintro e w4 ⟨v3, rfl, ho3, hb3⟩
        rw [HR.out] at ho3 ⊢
        have X4 := Lib.hid ho3; have HB3 := Lib.hid hb3
        have hz5 := hb3.size
        clear ho3 hb3
        go_wp2_with fail
        have hsame := toksEq_refl true r.toks
        refine (same_any r.toks r.toks v3 v2 true _ (Arr.of_owns X4.out) (Arr.of_owns (owns_below X2.out HB3.out)) hlen hlen).mono ?_
        rintro e w5 ⟨rfl, n5, rfl⟩
        rw [hsame]
        clear hsame
        go_wp2_with fail
        refine (known_ends (w0 := w) (below_drewN (X3.out.trans (HB3.out.mono hz4)) _)).mono ?_
        rintro e w6 ⟨rfl, hb6⟩
        go_wp2
        go_ret
        exact ⟨rfl, hb6⟩

end Go.Proofs.Ytnmlejjdofbaiaa
