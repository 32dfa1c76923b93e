/- The program's lower.fits: an instruction that can be. Parts of the proofs of the laws of layers 6 to 22. Conditions: none. -/
import Derived.Test.YtaocgmkcjemecaaLowB
namespace Go.Proofs.Ytaocgmkcjemecaa
open Go.RowKit
set_option linter.unusedVariables false
set_option linter.unusedSimpArgs false

def NeedIs (n : Needs) (w : World) (e : Ending) (w' : World) : Prop := e = .returned (.tuple #[.agg #[.bool n.reg, .bool n.loc, .bool n.e, .bool n.f, .bool n.ne, .bool n.goal], .bool true]) ∧ Below w.heap.size w w'
def NeedNone (w : World) (e : Ending) (w' : World) : Prop := e = .returned (.tuple #[.agg #[.bool false, .bool false, .bool false, .bool false, .bool false, .bool false], .bool false]) ∧ Below w.heap.size w w'
theorem needs_some (op : Int) (n : Needs) (w : World) (h : needsOf op = some n) : Calls Try.prog 108 #[.int .i64 op] w (NeedIs n w) :=
  (needs_any op w).mono fun e w' ⟨he, hb⟩ => ⟨by rw [he, h]; rfl, hb⟩
theorem needs_none (op : Int) (w : World) (h : needsOf op = none) : Calls Try.prog 108 #[.int .i64 op] w (NeedNone w) :=
  (needs_any op w).mono fun e w' ⟨he, hb⟩ => ⟨by rw [he, h]; rfl, hb⟩

/-- Two variables laid, and what was made behind them: they hold what they held. -/
theorem two_boxes {w w1 : World} {cs ds : Array Value} {E F : TypeId} (hb : Below ((w.alloc (.cells cs E)).alloc (.cells ds F)).heap.size ((w.alloc (.cells cs E)).alloc (.cells ds F)) w1) :
    (∀ k u, cs[k]? = some u → w1.cell? ⟨w.heap.size, k, none⟩ = some u) ∧ (∀ k u, ds[k]? = some u → w1.cell? ⟨w.heap.size + 1, k, none⟩ = some u) ∧ w.heap.size + 2 ≤ w1.heap.size ∧ Below w.heap.size w w1 := by
  have hz := hb.size
  simp only [World.size_alloc] at hz
  have hc := (bcell hb).1
  have h1 := heap_alloc_new w (.cells cs E)
  have h2 := heap_alloc_new (w.alloc (.cells cs E)) (.cells ds F)
  refine ⟨fun k u hu => ?_, fun k u hu => ?_, by omega, ?_⟩
  · rw [hc _ _ (by simp only [World.size_alloc]; omega)]
    simp [hu]
  · rw [hc _ _ (by simp only [World.size_alloc]; omega)]
    simp [hu]
  · refine Below.trans (b := (w.alloc (.cells cs E)).alloc (.cells ds F)) ?_ ?_
    · exact ((Below.refl _ _).alloc (Nat.le_refl _) _).alloc (by simp) _
    · exact hb.mono (by simp only [World.size_alloc]; omega)

theorem past_cell {w1 : World} {o : Obj} {b k : Nat} {u : Value} (h : w1.cell? ⟨b, k, none⟩ = some u) (hb : b < w1.heap.size) : (w1.alloc o).cell? ⟨b, k, none⟩ = some u :=
  (((Below.refl w1.heap.size w1).alloc (Nat.le_refl _) o).cell (p := ⟨b, k, none⟩) hb).trans h
theorem new_cell (w1 : World) (cs : Array Value) (E : TypeId) (k : Nat) (u : Value) (h : cs[k]? = some u) : (w1.alloc (.cells cs E)).cell? ⟨w1.heap.size, k, none⟩ = some u := by simp [h]

def instrVal (x : InstrS) (ve vf : Value) : Value := .agg #[.int .i64 x.op, .int .i64 x.reg, .int .i64 x.loc, ve, vf, .bool x.ne, .int .i64 x.goal]

set_option maxRecDepth 100000 in
set_option maxHeartbeats 4000000 in
theorem fits_any (op reg loc : Int) (le lf : List OpS) (ne : Bool) (goal : Int) (ve vf : Value) (regs locs many : Int) (w : World) (he : Sl rOp w ve le) (hf : Sl rOp w vf lf) :
    Calls Try.prog 100 #[.agg #[.int .i64 op, .int .i64 reg, .int .i64 loc, ve, vf, .bool ne, .int .i64 goal], .int .i64 regs, .int .i64 locs, .int .i64 many] w (BoolBelow (instrOk regs locs many ⟨op, reg, loc, le, lf, ne, goal⟩) w) := by
  have HE := Lib.hid he; have HF := Lib.hid hf; clear he hf
  obtain ⟨res, hres⟩ : ∃ r, instrOk regs locs many ⟨op, reg, loc, le, lf, ne, goal⟩ = r := ⟨_, rfl⟩
  have HR := Lib.hid hres
  rw [hres]
  clear hres
  cases hn : needsOf op with
  | none =>
    have HN := Lib.hid hn; clear hn
    go_enter Try.func100, Try.ntmps100
    go_wp2_with fail
    refine (needs_none op _ HN.out).mono ?_
    rintro e w1 ⟨rfl, hb⟩
    obtain ⟨_, _, hz, hb2⟩ := two_boxes hb
    have HB := Lib.hid hb2
    clear hb hb2
    go_wp2
    go_ret
    exact ⟨by rw [← HR.out]; simp [instrOk, HN.out], HB.out.alloc (by omega) _⟩
  | some n =>
    obtain ⟨nr, nl, n1, n2, nn, ng⟩ := n
    have HN := Lib.hid hn; clear hn
    by_cases hne : ne = true ∧ nn = false
    · obtain ⟨rfl, rfl⟩ := hne
      go_enter Try.func100, Try.ntmps100
      go_wp2_with fail
      refine (needs_some op _ _ HN.out).mono ?_
      rintro e w1 ⟨rfl, hb⟩
      obtain ⟨hx, _, hz, hb2⟩ := two_boxes hb
      have HB := Lib.hid hb2
      have y5 := hx 5 _ rfl
      have k1 : w.heap.size < w1.heap.size := by omega
      clear hb hb2 hx
      go_wp2
      go_ret
      exact ⟨by rw [← HR.out]; simp [instrOk, HN.out], HB.out.alloc (by omega) _⟩
    · have hcs : (ne = false) ∨ (ne = true ∧ (!nn) = false) := by cases ne <;> cases nn <;> simp_all
      clear hne
      rcases hcs with hne | ⟨hne, hnn⟩
      all_goals
        go_enter Try.func100, Try.ntmps100
        go_wp2_with fail
        refine (needs_some op _ _ HN.out).mono ?_
        rintro e w1 ⟨rfl, hb⟩
        obtain ⟨hx, hy, hz, hb2⟩ := two_boxes hb
        have HB := Lib.hid hb2
        have y1 := hx 1 _ rfl
        have y2 := hx 2 _ rfl
        have y3 := hx 3 _ rfl
        have y4 := hx 4 _ rfl
        have y5 := hx 5 _ rfl
        have y6 := hx 6 _ rfl
        have z0 := hy 0 _ rfl
        have k1 : w.heap.size < w1.heap.size := by omega
        have k2 : w.heap.size + 1 < w1.heap.size := by omega
        clear hb hb2 hx hy
        go_wp2_with fail
        refine (place_any nr reg regs _).mono ?_
        rintro e w2 ⟨rfl, rfl⟩
        cases p1 : placeB nr reg regs
        · go_wp2
          go_ret
          exact ⟨by rw [← HR.out]; simp [instrOk, HN.out, p1], HB.out.alloc (by omega) _⟩
        · have P1 := Lib.hid p1; clear p1
          go_wp2_with fail
          refine (place_any nl loc locs _).mono ?_
          rintro e w2 ⟨rfl, rfl⟩
          cases p2 : placeB nl loc locs
          · go_wp2
            go_ret
            exact ⟨by rw [← HR.out]; simp [instrOk, HN.out, p2], HB.out.alloc (by omega) _⟩
          · have P2 := Lib.hid p2; clear p2
            go_wp2_with fail
            refine (place_any ng goal many _).mono ?_
            rintro e w2 ⟨rfl, rfl⟩
            cases p3 : placeB ng goal many
            · go_wp2
              go_ret
              exact ⟨by rw [← HR.out]; simp [instrOk, HN.out, p3], HB.out.alloc (by omega) _⟩
            · have P3 := Lib.hid p3; clear p3
              go_wp2_with fail
              have hBW : Below w.heap.size w (w1.alloc (.cells #[.bool nr, .bool nl, .bool n1, .bool n2, .bool nn, .bool ng] 144)) := HB.out.alloc (by omega) _
              have q4 := past_cell (o := .cells #[.bool nr, .bool nl, .bool n1, .bool n2, .bool nn, .bool ng] 144) y4 k1
              have q0 := past_cell (o := .cells #[.bool nr, .bool nl, .bool n1, .bool n2, .bool nn, .bool ng] 144) z0 k2
              have q3 := new_cell w1 #[.bool nr, .bool nl, .bool n1, .bool n2, .bool nn, .bool ng] 144 3 _ rfl
              have hWs : w1.heap.size < (w1.alloc (.cells #[.bool nr, .bool nl, .bool n1, .bool n2, .bool nn, .bool ng] 144)).heap.size := by simp
              generalize w1.alloc (.cells #[.bool nr, .bool nl, .bool n1, .bool n2, .bool nn, .bool ng] 144) = W at *
              have HW := Lib.hid hBW
              clear hBW y1 y2 y3 y4 y5 y6 z0
              refine (fits1_any n1 le regs _ _ _ (HE.out.mono mono_op HW.out) q0).mono ?_
              rintro e w2 ⟨rfl, hb⟩
              have r4 := (hb.cell (p := ⟨w.heap.size, 4, none⟩) (by show w.heap.size < _; omega)).trans q4
              have r0 := (hb.cell (p := ⟨w.heap.size + 1, 0, none⟩) (by show w.heap.size + 1 < _; omega)).trans q0
              have r3 := (hb.cell (p := ⟨w1.heap.size, 3, none⟩) hWs).trans q3
              have HX := Lib.hid (HW.out.trans (hb.mono HW.out.size))
              clear hb q4 q0 q3
              cases p4 : codeB n1 le regs
              · go_wp2
                go_ret
                exact ⟨by rw [← HR.out]; simp [instrOk, HN.out, P1.out, P2.out, P3.out, p4, hne], HX.out⟩
              · have P4 := Lib.hid p4; clear p4
                go_wp2_with fail
                refine (fits1_any n2 lf regs _ _ _ (HF.out.mono mono_op HX.out) r0).mono ?_
                rintro e w3 ⟨rfl, hb⟩
                have HY := Lib.hid (HX.out.trans (hb.mono HX.out.size))
                clear hb
                go_wp2
                go_ret
                exact ⟨by rw [← HR.out]; cases nn <;> simp_all [instrOk, HN.out, P1.out, P2.out, P3.out, P4.out], HY.out⟩

end Go.Proofs.Ytaocgmkcjemecaa
