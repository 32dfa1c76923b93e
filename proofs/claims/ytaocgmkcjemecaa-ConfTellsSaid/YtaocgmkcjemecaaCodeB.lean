/- The document's code.Right. Parts of the proofs of the laws of layers 6 to 22. Conditions: none. -/
import Derived.Test.YtaocgmkcjemecaaCodeA
namespace Go.Proofs.Ytaocgmkcjemecaa
open Go.RowKit
set_option linter.unusedVariables false
set_option linter.unusedSimpArgs false

theorem Sl.nil {α : Type} (r : Rd α) (w : World) : Sl r w (.slice none 0 0) [] := ⟨none, 0, rfl, by simp, fun k hk => absurd hk (by simp)⟩

def RightCPost (l : List OpS) (regs : List Int) (own locs : Int) (w : World) (e : Ending) (w' : World) : Prop := e = .returned (.bool (rightC l regs own locs)) ∧ Below w.heap.size w w'

theorem rightC_no {l : List OpS} {regs : List Int} {own locs : Int} {w w' : World} {k : Nat} (hk : k < l.length) (h : opOk regs own locs l[k] = false) (hb : Below w.heap.size w w') : RightCPost l regs own locs w (.returned (.bool false)) w' := ⟨by rw [rightC_bad hk h], hb⟩

theorem in06_q (a b : Int) (w : World) (n : Nat) : Calls Try.prog 85 #[.int .i64 a, .int .i64 b] (w.drewN n) fun e w'' => e = .returned (.bool (inB a b)) ∧ ∃ m, w'' = w.drewN m :=
  (in06_any a b _).mono fun _ _ ⟨he, hw⟩ => ⟨he, n, hw.symm⟩

theorem opOk4 {regs : List Int} {own locs : Int} {x : OpS} (hop : x.op = 4) {tn : Nat} (ht : x.t = tn) (hlt : tn < regs.length) : opOk regs own locs x = inB x.n regs[tn] := by
  simp only [opOk, hop, ht]
  simp [List.getElem?_eq_getElem hlt]
theorem opOk4_no {regs : List Int} {own locs : Int} {x : OpS} (hop : x.op = 4) (h : inB x.t regs.length = false) : opOk regs own locs x = false := by
  simp only [opOk, hop]
  simp only [inB, decide_eq_false_iff_not] at h
  rcases hx : regs[x.t.toNat]? with _ | m
  · simp
  · have := (List.getElem?_eq_some_iff.1 hx).1
    have : ¬ 0 ≤ x.t := by omega
    simp [this]

set_option maxRecDepth 100000 in
set_option maxHeartbeats 8000000 in
theorem rightC06_any (l : List OpS) (regs : List Int) (own locs : Int) (v vr : Value) (w : World) (hv : Sl rOp w v l) (hr : Sl rI w vr regs) :
    Calls Try.prog 89 #[v, vr, .int .i64 own, .int .i64 locs] w (RightCPost l regs own locs w) := by
  have hl := hv.len
  have hl2 := hr.len
  have HV := Lib.hid hv
  obtain ⟨a, c, rfl, hc⟩ := ops_view hv
  obtain ⟨a2, c2, rfl, hc2⟩ := ints_view hr
  have HC := Lib.hid hc; have HC2 := Lib.hid hc2; clear hc hc2 hv hr
  go_enter Try.func89, Try.ntmps89
  go_wp2
  go_loopw [9] (fun i wr => ∃ k : Nat, i = .int .i64 k ∧ k ≤ l.length ∧ (∀ j (h : j < l.length), j < k → opOk regs own locs l[j] = true) ∧ Below w.heap.size w wr) (fun i _ => l.length - (intOf i).toNat)
  case atStart => exact ⟨0, rfl, by omega, fun j _ h => absurd h (by omega), Below.refl _ _⟩
  case round =>
    obtain ⟨k, rfl, hk, hall, hb⟩ := hrel
    have Hall := Lib.hid hall; have HB := Lib.hid hb
    have hz := hb.size
    clear hall hb
    by_cases hlt : k < l.length
    · obtain ⟨b, o, rfl, x1, x2, x3, _⟩ := HC.out k hlt
      have y1 := cell_later HB.out x1; have y2 := cell_later HB.out x2; have y3 := cell_later HB.out x3
      clear x1 x2 x3
      obtain ⟨x, hx⟩ : ∃ x, l[k] = x := ⟨_, rfl⟩
      have Hrel : Hid (opOk regs own locs x = true → ∀ j (h : j < l.length), j < k + 1 → opOk regs own locs l[j] = true) := fun hox j h2 h3 => by
        rcases Nat.lt_or_ge j k with h | h
        · exact Hall.out j h2 h
        · obtain rfl : j = k := by omega
          rw [hx]; exact hox
      have Hbad : Hid (∀ w', opOk regs own locs x = false → Below w.heap.size w w' → RightCPost l regs own locs w (.returned (.bool false)) w') := fun w' hox hbb => rightC_no hlt (by rw [hx]; exact hox) hbb
      rw [hx] at y1 y2 y3
      clear hx
      by_cases c1 : x.op = 1
      · have d1 : (x.op == 1) = true := ib_yes c1
        have HE := Lib.hid (show opOk regs own locs x = inB x.n 10000 by simp only [opOk, c1, if_true])
        cases h : inB x.n 10000
        · clear c1
          go_wp2_with (first | (go_at_call 85; refine (in06_any _ _ _).mono ?_; rintro e w' ⟨rfl, rfl⟩))
          go_ret
          exact Hbad.out _ (by rw [HE.out, h]) (HB.out.alloc hz _)
        · clear c1
          go_wp2_with (first | (go_at_call 85; refine (in06_any _ _ _).mono ?_; rintro e w' ⟨rfl, rfl⟩))
          go_roundw
          case rel => exact ⟨k + 1, by go_num, by omega, Hrel.out (by rw [HE.out, h]), HB.out.alloc hz _⟩
          case measure => simp [intOf]; omega
      · have d1 : (x.op == 1) = false := ib_no c1
        by_cases c2 : x.op = 2
        · have d2 : (x.op == 2) = true := ib_yes c2
          have HE := Lib.hid (show opOk regs own locs x = inB x.n own by simp [opOk, c2])
          cases h : inB x.n own
          · clear c1 c2
            go_wp2_with (first | (go_at_call 85; refine (in06_any _ _ _).mono ?_; rintro e w' ⟨rfl, rfl⟩))
            go_ret
            exact Hbad.out _ (by rw [HE.out, h]) (HB.out.alloc hz _)
          · clear c1 c2
            go_wp2_with (first | (go_at_call 85; refine (in06_any _ _ _).mono ?_; rintro e w' ⟨rfl, rfl⟩))
            go_roundw
            case rel => exact ⟨k + 1, by go_num, by omega, Hrel.out (by rw [HE.out, h]), HB.out.alloc hz _⟩
            case measure => simp [intOf]; omega
        · have d2 : (x.op == 2) = false := ib_no c2
          by_cases c3 : x.op = 3
          · have d3 : (x.op == 3) = true := ib_yes c3
            have HE := Lib.hid (show opOk regs own locs x = inB x.n locs by simp [opOk, c3])
            cases h : inB x.n locs
            · clear c1 c2 c3
              go_wp2_with (first | (go_at_call 85; refine (in06_any _ _ _).mono ?_; rintro e w' ⟨rfl, rfl⟩))
              go_ret
              exact Hbad.out _ (by rw [HE.out, h]) (HB.out.alloc hz _)
            · clear c1 c2 c3
              go_wp2_with (first | (go_at_call 85; refine (in06_any _ _ _).mono ?_; rintro e w' ⟨rfl, rfl⟩))
              go_roundw
              case rel => exact ⟨k + 1, by go_num, by omega, Hrel.out (by rw [HE.out, h]), HB.out.alloc hz _⟩
              case measure => simp [intOf]; omega
          · have d3 : (x.op == 3) = false := ib_no c3
            by_cases c4 : x.op = 4
            · have d4 : (x.op == 4) = true := ib_yes c4
              cases ht : inB x.t regs.length
              · have HE := Lib.hid (opOk4_no (own := own) (locs := locs) c4 ht)
                clear c1 c2 c3 c4
                go_wp2
                go_quiet ((go_at_call 85; exact in06_q _ _ _ _))
                go_wp2
                go_ret
                exact Hbad.out _ HE.out (below_drewN (HB.out.alloc hz _) _)
              · have ht2 := ht
                simp only [inB, decide_eq_true_eq] at ht2
                obtain ⟨t1, t2⟩ := ht2
                obtain ⟨tn, htn⟩ := Int.eq_ofNat_of_zero_le t1
                rw [htn] at t2 y3 ht
                have t3 : tn < regs.length := by omega
                obtain ⟨b2, o2, rfl, z1, _⟩ := HC2.out tn t3
                have z2 := cell_later HB.out z1
                have HE := Lib.hid (opOk4 (own := own) (locs := locs) c4 htn t3)
                clear z1 t1 htn
                obtain ⟨m, hm⟩ : ∃ m, regs[tn] = m := ⟨_, rfl⟩
                rw [hm] at z2 HE
                clear hm
                have hb2 : b2 < wr.heap.size := World.block_lt_of_cell? _ _ z2
                have hb3 : b2 ≠ wr.heap.size := by omega
                cases h : inB x.n m
                · clear c1 c2 c3 c4
                  go_wp2
                  go_quiet ((go_at_call 85; exact in06_q _ _ _ _))
                  go_wp2
                  go_ret
                  exact Hbad.out _ (by rw [HE.out, h]) (below_drewN (HB.out.alloc hz _) _)
                · clear c1 c2 c3 c4
                  go_wp2
                  go_quiet ((go_at_call 85; exact in06_q _ _ _ _))
                  go_wp2
                  go_roundw
                  case rel => exact ⟨k + 1, by go_num, by omega, Hrel.out (by rw [HE.out, h]), below_drewN (HB.out.alloc hz _) _⟩
                  case measure => simp [intOf]; omega
            · have d4 : (x.op == 4) = false := ib_no c4
              have HE := Lib.hid (show opOk regs own locs x = true by simp [opOk, c1, c2, c3, c4])
              clear c1 c2 c3 c4
              go_wp2
              go_roundw
              case rel => exact ⟨k + 1, by go_num, by omega, Hrel.out HE.out, HB.out.alloc hz _⟩
              case measure => simp [intOf]; omega
    · have HG := Lib.hid (rightC_good (regs := regs) (own := own) (locs := locs) (l := l) (fun j hj => Hall.out j hj (by omega)))
      go_wp2_with fail
      refine (lies06_any l _ _ (HV.out.mono mono_op HB.out)).mono ?_
      rintro e w' ⟨rfl, rfl⟩
      go_wp2
      go_ret
      exact ⟨by rw [HG.out]; rfl, HB.out⟩

end Go.Proofs.Ytaocgmkcjemecaa
