/- The program's lower.row: a row that can be. Parts of the proofs of the laws of layers 6 to 22. Conditions: none. -/
import Derived.Test.YtaocgmkcjemecaaLowC
namespace Go.Proofs.Ytaocgmkcjemecaa
open Go.RowKit
set_option linter.unusedVariables false
set_option linter.unusedSimpArgs false

theorem cell_up {w w1 : World} (hb : Below w.heap.size w w1) {b k : Nat} {u : Value} (h : w.cell? ⟨b, k, none⟩ = some u) : w1.cell? ⟨b, k, none⟩ = some u := cell_later hb h

theorem Sl.cap {α : Type} {r : Rd α} {w : World} {a : Option Addr} {n c : Nat} {l : List α} (h : Sl r w (.slice a n c) l) : n = l.length ∧ l.length ≤ c ∧ c ≤ 9223372036854775807 := by
  obtain ⟨a', c', e, ⟨h1, h2, _⟩, _⟩ := h
  simp only [List.cons.injEq, and_true, Value.slice.injEq] at e
  obtain ⟨rfl, rfl, rfl⟩ := e
  unfold maxLen at h2
  exact ⟨rfl, h1, h2⟩

set_option maxRecDepth 100000 in
set_option maxHeartbeats 4000000 in
theorem row_any (l : List InstrS) (v : Value) (regs locs : Int) (w : World) (hv : Sl rInstr w v l) :
    Calls Try.prog 84 #[v, .int .i64 regs, .int .i64 locs] w (BoolBelow (rowOk l regs locs) w) := by
  have hl := hv.len
  obtain ⟨a, c, rfl, hc⟩ := instrs_view hv
  obtain ⟨_, hcap, hcap2⟩ := hv.cap
  have HC := Lib.hid hc; clear hc hv
  by_cases h0 : l.length = 0
  · have HR := Lib.hid (rowOk_size (l := l) (regs := regs) (locs := locs) (by omega))
    rw [HR.out, h0]
    clear h0
    go_enter Try.func84, Try.ntmps84
    go_wp2
    go_ret
    exact ⟨rfl, Below.refl _ _⟩
  by_cases h1 : 1000 < l.length
  · have HR := Lib.hid (rowOk_size (l := l) (regs := regs) (locs := locs) (by omega))
    rw [HR.out]
    go_enter Try.func84, Try.ntmps84
    go_wp2
    go_ret
    exact ⟨rfl, Below.refl _ _⟩
  obtain ⟨m, hm⟩ : ∃ m, l.length = m + 1 := ⟨l.length - 1, by omega⟩
  have HM := Lib.hid hm
  have hml : m < l.length := by omega
  have hmm : m ≤ 999 := by omega
  have hlast : ∀ h : l.length - 1 < l.length, l[l.length - 1]'h = l[m]'hml := fun _ => by congr 1; omega
  obtain ⟨b, off, ve, vf, rfl, x0, x1, x2, x3, x4, x5, x6, s1, s2, bd⟩ := HC.out m hml
  clear bd
  obtain ⟨x, hx⟩ : ∃ x, l[m]'hml = x := ⟨_, rfl⟩
  rw [hx] at x0 x1 x2 x5 x6 s1 s2
  have HL : Hid (∀ h : l.length - 1 < l.length, l[l.length - 1]'h = x) := fun h => (hlast h).trans hx
  clear hlast hx h0 h1
  rw [hm]
  clear hm
  have S1 := Lib.hid s1; have S2 := Lib.hid s2; clear s1 s2
  go_enter Try.func84, Try.ntmps84
  go_wp2_with fail
  refine (done_any x ve vf _ S1.out S2.out).mono ?_
  rintro e w1 ⟨rfl, hb⟩
  have HB := Lib.hid hb
  clear hb x0 x1 x2 x3 x4 x5 x6
  cases hd : doneOk x
  · have HN := Lib.hid (show rowOk l regs locs = false from rowOk_last (by have := HM.out; omega) (by rw [HL.out (by have := HM.out; omega)]; exact hd))
    clear hd
    go_wp2
    go_ret
    exact ⟨by rw [HN.out]; rfl, HB.out⟩
  · have HD := Lib.hid hd; clear hd
    go_wp2
    go_loopw [31] (fun i wr => ∃ k : Nat, i = .int .i64 k ∧ k ≤ m ∧ (∀ j (h : j < l.length), j < k → instrOk regs locs l.length l[j] = true) ∧ Below w.heap.size w wr) (fun i _ => m - (intOf i).toNat)
    case atStart => exact ⟨0, rfl, by omega, fun j _ h => absurd h (by omega), HB.out⟩
    case round =>
      obtain ⟨k, rfl, hk, hall, hb⟩ := hrel
      have Hall := Lib.hid hall; have HW := Lib.hid hb
      have hz := hb.size
      clear hall hb
      by_cases hlt : k < m
      · obtain ⟨b2, o2, ve, vf, he, y0, y1, y2, y3, y4, y5, y6, s1, s2, _⟩ := HC.out k (by have := HM.out; omega)
        simp only [Option.some.injEq, Addr.mk.injEq, and_true] at he
        obtain ⟨rfl, rfl⟩ := he
        have z0 := cell_later HW.out y0; have z1 := cell_later HW.out y1; have z2 := cell_later HW.out y2; have z3 := cell_later HW.out y3
        have z4 := cell_later HW.out y4; have z5 := cell_later HW.out y5; have z6 := cell_later HW.out y6
        clear y0 y1 y2 y3 y4 y5 y6
        have hkl : k < l.length := by have := HM.out; omega
        obtain ⟨y, hy⟩ : ∃ y, l[k]'hkl = y := ⟨_, rfl⟩
        rw [hy] at z0 z1 z2 z5 z6 s1 s2
        have HY := Lib.hid hy; clear hy
        obtain ⟨op, reg, loc, le, lf, ne, goal⟩ := y
        dsimp only at z0 z1 z2 z5 z6 s1 s2
        obtain ⟨ae, ce, rfl, _⟩ := ops_view s1
        obtain ⟨af, cf, rfl, _⟩ := ops_view s2
        have S3 := Lib.hid (s1.mono mono_op HW.out); have S4 := Lib.hid (s2.mono mono_op HW.out); clear s1 s2
        go_wp2_with fail
        refine (fits_any op reg loc le lf ne goal _ _ regs locs _ _ (S3.out.mono mono_op ((Below.refl _ _).alloc (Nat.le_refl _) _)) (S4.out.mono mono_op ((Below.refl _ _).alloc (Nat.le_refl _) _))).mono ?_
        rintro e w2 ⟨rfl, hb⟩
        have HX := Lib.hid ((HW.out.alloc hz _).trans (hb.mono (by simp only [World.size_alloc]; omega)))
        clear hb
        cases hf : instrOk regs locs ((m : Int) + 1) ⟨op, reg, loc, le, lf, ne, goal⟩
        · have HN := Lib.hid (show rowOk l regs locs = false from rowOk_bad (k := k) (by have := HM.out; omega) (by rw [HY.out, HM.out]; exact hf))
          clear hf z0 z1 z2 z3 z4 z5 z6
          go_wp2
          go_ret
          exact ⟨by rw [HN.out]; rfl, HX.out⟩
        · have HF := Lib.hid hf
          clear hf z0 z1 z2 z3 z4 z5 z6
          go_wp2
          go_roundw
          case rel => exact ⟨k + 1, by go_num, by omega, fun j h2 h3 => by
            rcases Nat.lt_or_ge j k with h | h
            · exact Hall.out j h2 h
            · obtain rfl : j = k := by omega
              rw [HY.out, HM.out]; exact HF.out, HX.out⟩
          case measure => simp [intOf]; omega
      · have HG := Lib.hid (show rowOk l regs locs = true from rowOk_good (by have := HM.out; omega) (by have := HM.out; omega) (by rw [HL.out (by have := HM.out; omega)]; exact HD.out) (fun j hj => Hall.out j (by omega) (by have := HM.out; omega)))
        go_wp2
        go_ret
        exact ⟨by rw [HG.out]; rfl, HW.out⟩

end Go.Proofs.Ytaocgmkcjemecaa
