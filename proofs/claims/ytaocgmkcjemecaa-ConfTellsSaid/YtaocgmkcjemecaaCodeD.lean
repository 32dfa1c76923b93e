/- The program's code.lies. Parts of the proofs of the laws of layers 6 to 22. Conditions: none. -/
import Derived.Test.YtaocgmkcjemecaaCodeC
namespace Go.Proofs.Ytaocgmkcjemecaa
open Go.RowKit
set_option linter.unusedVariables false
set_option linter.unusedSimpArgs false

def OfIs (t : Int) (fv : Value) (ok : Bool) (w : World) (e : Ending) (w' : World) : Prop := e = .returned (.tuple #[.agg #[.int .i64 t, fv], .bool ok]) ∧ Below w.heap.size w w'

theorem of_leaf (op : Int) (w : World) (h : ¬ (5 ≤ op ∧ op ≤ 14)) : Calls Try.prog 118 #[.int .i64 op] w (OfIs 0 .nilFunc false w) :=
  (of_any op w).mono fun e w' ⟨he, hb⟩ => by
    have ht : takesOf op = 0 := by simp only [takesOf]; rw [if_neg (by omega), if_neg (by omega)]
    have hd : doVal op = .nilFunc := by
      simp only [doVal]
      repeat rw [if_neg (by omega)]
    have hbb : decide (5 ≤ op ∧ op ≤ 14) = false := decide_eq_false h
    rw [ht, hd, hbb] at he
    exact ⟨he, hb⟩

theorem doVal_fn {op : Int} (h : 5 ≤ op ∧ op ≤ 14) : ∃ f : Nat, doVal op = .func (.func f) #[] #[] := by
  have hc : op = 5 ∨ op = 6 ∨ op = 7 ∨ op = 8 ∨ op = 9 ∨ op = 10 ∨ op = 11 ∨ op = 12 ∨ op = 13 ∨ op = 14 := by omega
  rcases hc with rfl | rfl | rfl | rfl | rfl | rfl | rfl | rfl | rfl | rfl
  all_goals exact ⟨_, rfl⟩

theorem of_op (op : Int) (w : World) (h : 5 ≤ op ∧ op ≤ 14) (t : Int) (ht : takesOf op = t) (f : Nat) (hf : doVal op = .func (.func f) #[] #[]) : Calls Try.prog 118 #[.int .i64 op] w (OfIs t (.func (.func f) #[] #[]) true w) :=
  (of_any op w).mono fun e w' ⟨he, hb⟩ => by
    have hbb : decide (5 ≤ op ∧ op ≤ 14) = true := decide_eq_true h
    rw [ht, hf, hbb] at he
    exact ⟨he, hb⟩

theorem takes_two {op : Int} (h : 6 ≤ op ∧ op ≤ 14) : takesOf op = 2 := by simp only [takesOf]; rw [if_neg (by omega), if_pos h]

def LiesBPost (l : List OpS) (w : World) (e : Ending) (w' : World) : Prop := e = .returned (.tuple #[.int .i64 (liesL l).1, .int .i64 (liesL l).2]) ∧ Below w.heap.size w w'

set_option maxRecDepth 100000 in
set_option maxHeartbeats 8000000 in
theorem lies_any (l : List OpS) (v : Value) (w : World) (hv : Sl rOp w v l) : Calls Try.prog 115 #[v] w (LiesBPost l w) := by
  have hl := hv.len
  obtain ⟨a, c, rfl, hc⟩ := ops_view hv
  have HC := Lib.hid hc; clear hc hv
  go_enter Try.func115, Try.ntmps115
  go_wp2
  go_loopw [4, 5, 13] (fun n m i wr => ∃ (k : Nat) (nn mm : Int), i = .int .i64 k ∧ n = .int .i64 nn ∧ m = .int .i64 mm ∧ k ≤ l.length ∧ 0 ≤ nn ∧ nn ≤ k ∧ 0 ≤ mm ∧ mm ≤ k ∧ liesGo (l.drop k) nn mm = liesL l ∧ Below w.heap.size w wr) (fun _ _ i _ => l.length - (intOf i).toNat)
  case atStart => exact ⟨0, 0, 0, rfl, rfl, rfl, by omega, by omega, by omega, by omega, by omega, rfl, Below.refl _ _⟩
  case round =>
    obtain ⟨k, nn, mm, rfl, rfl, rfl, hk, hn1, hn2, hm1, hm2, hrel, hb⟩ := hrel
    have HR := Lib.hid hrel; have HB := Lib.hid hb; have hz := hb.size; clear hrel hb
    by_cases hlt : k < l.length
    · obtain ⟨b, o, rfl, x1, x2, x3, _⟩ := HC.out k hlt
      have y1 := cell_later HB.out x1; have y2 := cell_later HB.out x2; have y3 := cell_later HB.out x3
      clear x1 x2 x3
      have HD := Lib.hid (lies_drop hlt nn mm)
      obtain ⟨x, hx⟩ : ∃ x, l[k] = x := ⟨_, rfl⟩
      rw [hx] at y1 y2 y3 HD
      clear hx
      by_cases c1 : 1 ≤ x.op ∧ x.op ≤ 4
      · have h5 : ¬ (5 ≤ x.op ∧ x.op ≤ 14) := by omega
        have HD1 := Lib.hid (HD.out.trans (if_pos c1))
        obtain ⟨c1a, c1b⟩ := c1
        have H5 := Lib.hid h5; clear h5
        go_wp2_with fail
        refine (of_leaf x.op _ H5.out).mono ?_
        rintro e w2 ⟨rfl, hb2⟩
        have q0 : w2.cell? ⟨wr.heap.size, 0, none⟩ = some (.int .i64 x.op) := by rw [(bcell hb2).1 _ _ (by simp)]; simp [go_sem]
        have hz2 := hb2.size
        simp only [World.size_alloc] at hz2
        have hne : wr.heap.size ≠ w2.heap.size := by omega
        have hlt2 : wr.heap.size < w2.heap.size := by omega
        have HB2 := Lib.hid ((HB.out.alloc hz _).trans (hb2.mono (by simp; omega)))
        clear hb2
        go_wp2
        all_goals
          go_roundw
          case rel => exact ⟨k + 1, nn + 1, max mm (nn + 1), by go_num, by go_num, by go_num, by omega, by omega, by omega, by omega, by omega, by rw [← HR.out, HD1.out], HB2.out.alloc (by omega) _⟩
          case measure => simp [intOf]; omega
      · by_cases c2 : x.op = 5 ∧ 1 ≤ nn
        · have HD1 := Lib.hid (HD.out.trans ((if_neg c1).trans (if_pos c2)))
          obtain ⟨c2a, c2b⟩ := c2
          obtain ⟨f, hf⟩ := doVal_fn (op := x.op) (by omega)
          have Hf := Lib.hid hf; clear hf
          have H5 : Hid (5 ≤ x.op ∧ x.op ≤ 14) := by simp only [Hid]; omega
          have HT : Hid (takesOf x.op = 1) := by simp only [Hid, takesOf]; rw [if_pos c2a]
          have h1 : ¬ x.op ≤ 4 := by omega
          have h1b : 1 ≤ x.op := by omega
          clear c1 c2a
          go_wp2_with fail
          refine (of_op x.op _ H5.out 1 HT.out f Hf.out).mono ?_
          rintro e w2 ⟨rfl, hb2⟩
          have q0 : w2.cell? ⟨wr.heap.size, 0, none⟩ = some (.int .i64 x.op) := by rw [(bcell hb2).1 _ _ (by simp)]; simp [go_sem]
          have hz2 := hb2.size
          simp only [World.size_alloc] at hz2
          have hne : wr.heap.size ≠ w2.heap.size := by omega
          have hlt2 : wr.heap.size < w2.heap.size := by omega
          have HB2 := Lib.hid ((HB.out.alloc hz _).trans (hb2.mono (by simp; omega)))
          clear hb2
          go_wp2
          all_goals
            go_roundw
            case rel => exact ⟨k + 1, nn, max mm (nn), by go_num, by go_num, by go_num, by omega, by omega, by omega, by omega, by omega, by rw [← HR.out, HD1.out], HB2.out.alloc (by omega) _⟩
            case measure => simp [intOf]; omega
        · by_cases c3 : 6 ≤ x.op ∧ x.op ≤ 14 ∧ 2 ≤ nn
          · have HD1 := Lib.hid (HD.out.trans ((if_neg c1).trans ((if_neg c2).trans (if_pos c3))))
            obtain ⟨c3a, c3b, c3c⟩ := c3
            obtain ⟨f, hf⟩ := doVal_fn (op := x.op) (by omega)
            have Hf := Lib.hid hf; clear hf
            have H5 : Hid (5 ≤ x.op ∧ x.op ≤ 14) := by simp only [Hid]; omega
            have HT : Hid (takesOf x.op = 2) := takes_two ⟨c3a, c3b⟩
            clear c1 c2
            go_wp2_with fail
            refine (of_op x.op _ H5.out 2 HT.out f Hf.out).mono ?_
            rintro e w2 ⟨rfl, hb2⟩
            have q0 : w2.cell? ⟨wr.heap.size, 0, none⟩ = some (.int .i64 x.op) := by rw [(bcell hb2).1 _ _ (by simp)]; simp [go_sem]
            have hz2 := hb2.size
            simp only [World.size_alloc] at hz2
            have hne : wr.heap.size ≠ w2.heap.size := by omega
            have hlt2 : wr.heap.size < w2.heap.size := by omega
            have HB2 := Lib.hid ((HB.out.alloc hz _).trans (hb2.mono (by simp; omega)))
            clear hb2
            go_wp2
            all_goals
              go_roundw
              case rel => exact ⟨k + 1, nn - 1, max mm (nn - 1), by go_num, by go_num, by go_num, by omega, by omega, by omega, by omega, by omega, by rw [← HR.out, HD1.out], HB2.out.alloc (by omega) _⟩
              case measure => simp [intOf]; omega
          · have HF := Lib.hid (show liesL l = (-1, -1) by rw [← HR.out, HD.out, if_neg c1, if_neg c2, if_neg c3])
            by_cases h5 : 5 ≤ x.op ∧ x.op ≤ 14
            · obtain ⟨f, hf⟩ := doVal_fn h5
              have Hf := Lib.hid hf; clear hf
              have H5 := Lib.hid h5
              by_cases h6 : x.op = 5
              · have HT : Hid (takesOf x.op = 1) := by simp only [Hid, takesOf]; rw [if_pos h6]
                have hn : nn < 1 := by omega
                have h1b : 1 ≤ x.op := by omega
                have h1 : ¬ x.op ≤ 4 := by omega
                clear c1 c2 c3 h5 h6
                go_wp2_with fail
                refine (of_op x.op _ H5.out 1 HT.out f Hf.out).mono ?_
                rintro e w2 ⟨rfl, hb2⟩
                have q0 : w2.cell? ⟨wr.heap.size, 0, none⟩ = some (.int .i64 x.op) := by rw [(bcell hb2).1 _ _ (by simp)]; simp [go_sem]
                have hz2 := hb2.size
                simp only [World.size_alloc] at hz2
                have hne : wr.heap.size ≠ w2.heap.size := by omega
                have hlt2 : wr.heap.size < w2.heap.size := by omega
                have HB2 := Lib.hid ((HB.out.alloc hz _).trans (hb2.mono (by simp; omega)))
                clear hb2
                go_wp2
                go_ret2
                exact ⟨by rw [HF.out]; rfl, HB2.out.alloc (by omega) _⟩
              · have HT : Hid (takesOf x.op = 2) := takes_two (by omega)
                have hn : nn < 2 := by omega
                have h1b : 1 ≤ x.op := by omega
                have h1 : ¬ x.op ≤ 4 := by omega
                clear c1 c2 c3 h5 h6
                go_wp2_with fail
                refine (of_op x.op _ H5.out 2 HT.out f Hf.out).mono ?_
                rintro e w2 ⟨rfl, hb2⟩
                have q0 : w2.cell? ⟨wr.heap.size, 0, none⟩ = some (.int .i64 x.op) := by rw [(bcell hb2).1 _ _ (by simp)]; simp [go_sem]
                have hz2 := hb2.size
                simp only [World.size_alloc] at hz2
                have hne : wr.heap.size ≠ w2.heap.size := by omega
                have hlt2 : wr.heap.size < w2.heap.size := by omega
                have HB2 := Lib.hid ((HB.out.alloc hz _).trans (hb2.mono (by simp; omega)))
                clear hb2
                go_wp2
                go_ret2
                exact ⟨by rw [HF.out]; rfl, HB2.out.alloc (by omega) _⟩
            · have H5 := Lib.hid h5
              by_cases h1 : x.op < 1
              · clear c1 c2 c3 h5
                go_wp2_with fail
                refine (of_leaf x.op _ H5.out).mono ?_
                rintro e w2 ⟨rfl, hb2⟩
                have q0 : w2.cell? ⟨wr.heap.size, 0, none⟩ = some (.int .i64 x.op) := by rw [(bcell hb2).1 _ _ (by simp)]; simp [go_sem]
                have hz2 := hb2.size
                simp only [World.size_alloc] at hz2
                have hne : wr.heap.size ≠ w2.heap.size := by omega
                have hlt2 : wr.heap.size < w2.heap.size := by omega
                have HB2 := Lib.hid ((HB.out.alloc hz _).trans (hb2.mono (by simp; omega)))
                clear hb2
                go_wp2
                go_ret2
                exact ⟨by rw [HF.out]; rfl, HB2.out.alloc (by omega) _⟩
              · have h14 : 14 < x.op := by omega
                clear c1 c2 c3 h5
                go_wp2_with fail
                refine (of_leaf x.op _ H5.out).mono ?_
                rintro e w2 ⟨rfl, hb2⟩
                have q0 : w2.cell? ⟨wr.heap.size, 0, none⟩ = some (.int .i64 x.op) := by rw [(bcell hb2).1 _ _ (by simp)]; simp [go_sem]
                have hz2 := hb2.size
                simp only [World.size_alloc] at hz2
                have hne : wr.heap.size ≠ w2.heap.size := by omega
                have hlt2 : wr.heap.size < w2.heap.size := by omega
                have HB2 := Lib.hid ((HB.out.alloc hz _).trans (hb2.mono (by simp; omega)))
                clear hb2
                go_wp2
                go_ret2
                exact ⟨by rw [HF.out]; rfl, HB2.out.alloc (by omega) _⟩
    · have hd : l.drop k = [] := List.drop_eq_nil_of_le (by omega)
      have HF := Lib.hid (show liesL l = (nn, mm) by rw [← HR.out, hd]; rfl)
      go_wp2
      go_ret2
      exact ⟨by rw [HF.out]; rfl, HB.out⟩

end Go.Proofs.Ytaocgmkcjemecaa
