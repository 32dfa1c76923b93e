/- Reference 07's one: an instruction that can be, kind by kind. Parts of the proofs of the laws of layers 6 to 22. Conditions: none. -/
import Derived.Test.YtaocgmkcjemecaaLowF
namespace Go.Proofs.Ytaocgmkcjemecaa
open Go.RowKit
set_option linter.unusedVariables false
set_option linter.unusedSimpArgs false

set_option maxRecDepth 100000 in
set_option maxHeartbeats 4000000 in
theorem one07_9 (reg loc : Int) (le lf : List OpS) (ne : Bool) (goal : Int) (ve vf : Value) (regs locs many : Int) (w : World) (he : Sl rOp w ve le) (hf : Sl rOp w vf lf) :
    Calls Try.prog 61 #[.agg #[.int .i64 9, .int .i64 reg, .int .i64 loc, ve, vf, .bool ne, .int .i64 goal], .int .i64 regs, .int .i64 locs, .int .i64 many] w (BoolBelow (instrOk regs locs many ⟨9, reg, loc, le, lf, ne, goal⟩) w) := by
  have hl1 := he.len
  have hl2 := hf.len
  have HE := Lib.hid he; have HF := Lib.hid hf
  obtain ⟨ae, ce, rfl, h1⟩ := ops_view he
  obtain ⟨af, cf, rfl, h2⟩ := ops_view hf
  clear he hf h1 h2
  obtain ⟨n1, hn1⟩ : ∃ n, le.length = n := ⟨_, rfl⟩
  obtain ⟨n2, hn2⟩ : ∃ n, lf.length = n := ⟨_, rfl⟩
  rw [hn1] at hl1 HE ⊢
  rw [hn2] at hl2 HF ⊢
  have N1 := Lib.hid hn1; have N2 := Lib.hid hn2; clear hn1 hn2
  obtain ⟨res, hres⟩ : ∃ r, instrOk regs locs many ⟨9, reg, loc, le, lf, ne, goal⟩ = r := ⟨_, rfl⟩
  have HR : Hid (((!ne || true) && placeB false reg regs && placeB true loc locs && placeB false goal many && codeB true le regs && codeB false lf regs) = res) := hres
  rw [hres]
  clear hres
  have hB0 := Lib.hid (show Below w.heap.size w (w.alloc (.cells #[.int .i64 9, .int .i64 reg, .int .i64 loc, .slice ae n1 ce, .slice af n2 cf, .bool ne, .int .i64 goal] 81)) from (Below.refl _ _).alloc (Nat.le_refl _) _)
  cases pr : placeB false reg regs
  · have HN := Lib.hid (show res = false by rw [← HR.out, pr]; simp)
    have qr : (reg == 0) = false := by simpa [placeB] using pr
    have qr2 : (reg != 0) = true := by simpa [placeB] using pr
    clear pr
    go_enter Try.func61, Try.ntmps61
    go_wp2_with (first
        | (go_at_call 86; refine (parts_9 _).mono ?_; rintro e w' ⟨rfl, rfl⟩)
        | (go_at_call 87; refine (has_lit _ _ true _ rfl (by decide)).mono ?_; rintro e w' ⟨rfl, rfl⟩)
        | (go_at_call 87; refine (has_lit _ _ false _ rfl (by decide)).mono ?_; rintro e w' ⟨rfl, rfl⟩)
        | (go_at_call 88; refine (in07_any _ _ _).mono ?_; rintro e w' ⟨rfl, rfl⟩))
    go_ret
    exact ⟨by rw [HN.out]; rfl, hB0.out⟩
  · have Pr := Lib.hid pr
    have qr : (reg == 0) = true := by simpa [placeB] using pr
    have qr2 : (reg != 0) = false := by simpa [placeB] using pr
    clear pr
    cases pl : placeB true loc locs
    · have HN := Lib.hid (show res = false by rw [← HR.out, pl]; simp)
      have ql : inB loc locs = false := pl
      clear pl
      go_enter Try.func61, Try.ntmps61
      go_wp2_with (first
          | (go_at_call 86; refine (parts_9 _).mono ?_; rintro e w' ⟨rfl, rfl⟩)
          | (go_at_call 87; refine (has_lit _ _ true _ rfl (by decide)).mono ?_; rintro e w' ⟨rfl, rfl⟩)
          | (go_at_call 87; refine (has_lit _ _ false _ rfl (by decide)).mono ?_; rintro e w' ⟨rfl, rfl⟩)
          | (go_at_call 88; refine (in07_any _ _ _).mono ?_; rintro e w' ⟨rfl, rfl⟩))
      go_ret
      exact ⟨by rw [HN.out]; rfl, hB0.out⟩
    · have Pl := Lib.hid pl
      have ql : inB loc locs = true := pl
      clear pl
      cases pt : placeB false goal many
      · have HN := Lib.hid (show res = false by rw [← HR.out, pt]; simp)
        have qt : (goal == 0) = false := by simpa [placeB] using pt
        have qt2 : (goal != 0) = true := by simpa [placeB] using pt
        clear pt
        go_enter Try.func61, Try.ntmps61
        go_wp2_with (first
            | (go_at_call 86; refine (parts_9 _).mono ?_; rintro e w' ⟨rfl, rfl⟩)
            | (go_at_call 87; refine (has_lit _ _ true _ rfl (by decide)).mono ?_; rintro e w' ⟨rfl, rfl⟩)
            | (go_at_call 87; refine (has_lit _ _ false _ rfl (by decide)).mono ?_; rintro e w' ⟨rfl, rfl⟩)
            | (go_at_call 88; refine (in07_any _ _ _).mono ?_; rintro e w' ⟨rfl, rfl⟩))
        go_ret
        exact ⟨by rw [HN.out]; rfl, hB0.out⟩
      · have Pt := Lib.hid pt
        have qt : (goal == 0) = true := by simpa [placeB] using pt
        have qt2 : (goal != 0) = false := by simpa [placeB] using pt
        clear pt
        go_enter Try.func61, Try.ntmps61
        go_wp2_with (first
            | (go_at_call 86; refine (parts_9 _).mono ?_; rintro e w' ⟨rfl, rfl⟩)
            | (go_at_call 87; refine (has_lit _ _ true _ rfl (by decide)).mono ?_; rintro e w' ⟨rfl, rfl⟩)
            | (go_at_call 87; refine (has_lit _ _ false _ rfl (by decide)).mono ?_; rintro e w' ⟨rfl, rfl⟩)
            | (go_at_call 88; refine (in07_any _ _ _).mono ?_; rintro e w' ⟨rfl, rfl⟩))
        have c4 := new_cell w #[.int .i64 9, .int .i64 reg, .int .i64 loc, .slice ae n1 ce, .slice af n2 cf, .bool ne, .int .i64 goal] 81 4 _ rfl
        have c5 := new_cell w #[.int .i64 9, .int .i64 reg, .int .i64 loc, .slice ae n1 ce, .slice af n2 cf, .bool ne, .int .i64 goal] 81 5 _ rfl
        have hWs : w.heap.size < (w.alloc (.cells #[.int .i64 9, .int .i64 reg, .int .i64 loc, .slice ae n1 ce, .slice af n2 cf, .bool ne, .int .i64 goal] 81)).heap.size := by simp
        have HW := hB0
        clear hB0
        generalize w.alloc (.cells #[.int .i64 9, .int .i64 reg, .int .i64 loc, .slice ae n1 ce, .slice af n2 cf, .bool ne, .int .i64 goal] 81) = W at *
        refine (rightC06_any le [] regs 0 _ _ _ (HE.out.mono mono_op HW.out) (Sl.nil _ _)).mono ?_
        rintro e w2 ⟨rfl, hb⟩
        have r4 := cell_later hb c4
        have r5 := cell_later hb c5
        have HX := Lib.hid (HW.out.trans (hb.mono HW.out.size))
        have hW2 := hb.size
        clear hb c4 c5
        cases pe : rightC le [] regs 0
        · have HN := Lib.hid (show res = false from HR.out.symm.trans (and_no_e (e := codeB true le regs) pe))
          clear pe
          go_wp2_with (first
              | (go_at_call 86; refine (parts_9 _).mono ?_; rintro e w' ⟨rfl, rfl⟩)
              | (go_at_call 87; refine (has_lit _ _ true _ rfl (by decide)).mono ?_; rintro e w' ⟨rfl, rfl⟩)
              | (go_at_call 87; refine (has_lit _ _ false _ rfl (by decide)).mono ?_; rintro e w' ⟨rfl, rfl⟩)
              | (go_at_call 88; refine (in07_any _ _ _).mono ?_; rintro e w' ⟨rfl, rfl⟩))
          go_ret
          exact ⟨by rw [HN.out]; rfl, HX.out⟩
        · have PE : Hid (codeB true le regs = true) := pe
          clear pe
          by_cases pf : n2 = 0
          · have PF := Lib.hid (show codeB false lf regs = true from codeB_nil (N2.out.trans pf))
            subst pf
            cases ne
            all_goals
              go_wp2_with (first
                  | (go_at_call 86; refine (parts_9 _).mono ?_; rintro e w' ⟨rfl, rfl⟩)
                  | (go_at_call 87; refine (has_lit _ _ true _ rfl (by decide)).mono ?_; rintro e w' ⟨rfl, rfl⟩)
                  | (go_at_call 87; refine (has_lit _ _ false _ rfl (by decide)).mono ?_; rintro e w' ⟨rfl, rfl⟩)
                  | (go_at_call 88; refine (in07_any _ _ _).mono ?_; rintro e w' ⟨rfl, rfl⟩))
              go_ret
              exact ⟨by rw [← HR.out, Pr.out, Pl.out, Pt.out, PE.out, PF.out]; rfl, HX.out⟩
          · have HN := Lib.hid (show res = false from HR.out.symm.trans (and_no_f (codeB_no N2.out (by omega))))
            have g2 : 0 < n2 := by omega
            go_wp2_with (first
                | (go_at_call 86; refine (parts_9 _).mono ?_; rintro e w' ⟨rfl, rfl⟩)
                | (go_at_call 87; refine (has_lit _ _ true _ rfl (by decide)).mono ?_; rintro e w' ⟨rfl, rfl⟩)
                | (go_at_call 87; refine (has_lit _ _ false _ rfl (by decide)).mono ?_; rintro e w' ⟨rfl, rfl⟩)
                | (go_at_call 88; refine (in07_any _ _ _).mono ?_; rintro e w' ⟨rfl, rfl⟩))
            go_ret
            exact ⟨by rw [HN.out]; rfl, HX.out⟩

set_option maxRecDepth 100000 in
set_option maxHeartbeats 4000000 in
theorem one07_20 (reg loc : Int) (le lf : List OpS) (ne : Bool) (goal : Int) (ve vf : Value) (regs locs many : Int) (w : World) (he : Sl rOp w ve le) (hf : Sl rOp w vf lf) :
    Calls Try.prog 61 #[.agg #[.int .i64 20, .int .i64 reg, .int .i64 loc, ve, vf, .bool ne, .int .i64 goal], .int .i64 regs, .int .i64 locs, .int .i64 many] w (BoolBelow (instrOk regs locs many ⟨20, reg, loc, le, lf, ne, goal⟩) w) := by
  have hl1 := he.len
  have hl2 := hf.len
  have HE := Lib.hid he; have HF := Lib.hid hf
  obtain ⟨ae, ce, rfl, h1⟩ := ops_view he
  obtain ⟨af, cf, rfl, h2⟩ := ops_view hf
  clear he hf h1 h2
  obtain ⟨n1, hn1⟩ : ∃ n, le.length = n := ⟨_, rfl⟩
  obtain ⟨n2, hn2⟩ : ∃ n, lf.length = n := ⟨_, rfl⟩
  rw [hn1] at hl1 HE ⊢
  rw [hn2] at hl2 HF ⊢
  have N1 := Lib.hid hn1; have N2 := Lib.hid hn2; clear hn1 hn2
  obtain ⟨res, hres⟩ : ∃ r, instrOk regs locs many ⟨20, reg, loc, le, lf, ne, goal⟩ = r := ⟨_, rfl⟩
  have HR : Hid (((!ne || false) && placeB false reg regs && placeB false loc locs && placeB true goal many && codeB false le regs && codeB false lf regs) = res) := hres
  rw [hres]
  clear hres
  have hB0 := Lib.hid (show Below w.heap.size w (w.alloc (.cells #[.int .i64 20, .int .i64 reg, .int .i64 loc, .slice ae n1 ce, .slice af n2 cf, .bool ne, .int .i64 goal] 81)) from (Below.refl _ _).alloc (Nat.le_refl _) _)
  cases pr : placeB false reg regs
  · have HN := Lib.hid (show res = false by rw [← HR.out, pr]; simp)
    have qr : (reg == 0) = false := by simpa [placeB] using pr
    have qr2 : (reg != 0) = true := by simpa [placeB] using pr
    clear pr
    go_enter Try.func61, Try.ntmps61
    go_wp2_with (first
        | (go_at_call 86; refine (parts_20 _).mono ?_; rintro e w' ⟨rfl, rfl⟩)
        | (go_at_call 87; refine (has_lit _ _ true _ rfl (by decide)).mono ?_; rintro e w' ⟨rfl, rfl⟩)
        | (go_at_call 87; refine (has_lit _ _ false _ rfl (by decide)).mono ?_; rintro e w' ⟨rfl, rfl⟩)
        | (go_at_call 88; refine (in07_any _ _ _).mono ?_; rintro e w' ⟨rfl, rfl⟩))
    go_ret
    exact ⟨by rw [HN.out]; rfl, hB0.out⟩
  · have Pr := Lib.hid pr
    have qr : (reg == 0) = true := by simpa [placeB] using pr
    have qr2 : (reg != 0) = false := by simpa [placeB] using pr
    clear pr
    cases pl : placeB false loc locs
    · have HN := Lib.hid (show res = false by rw [← HR.out, pl]; simp)
      have ql : (loc == 0) = false := by simpa [placeB] using pl
      have ql2 : (loc != 0) = true := by simpa [placeB] using pl
      clear pl
      go_enter Try.func61, Try.ntmps61
      go_wp2_with (first
          | (go_at_call 86; refine (parts_20 _).mono ?_; rintro e w' ⟨rfl, rfl⟩)
          | (go_at_call 87; refine (has_lit _ _ true _ rfl (by decide)).mono ?_; rintro e w' ⟨rfl, rfl⟩)
          | (go_at_call 87; refine (has_lit _ _ false _ rfl (by decide)).mono ?_; rintro e w' ⟨rfl, rfl⟩)
          | (go_at_call 88; refine (in07_any _ _ _).mono ?_; rintro e w' ⟨rfl, rfl⟩))
      go_ret
      exact ⟨by rw [HN.out]; rfl, hB0.out⟩
    · have Pl := Lib.hid pl
      have ql : (loc == 0) = true := by simpa [placeB] using pl
      have ql2 : (loc != 0) = false := by simpa [placeB] using pl
      clear pl
      cases pt : placeB true goal many
      · have HN := Lib.hid (show res = false by rw [← HR.out, pt]; simp)
        have qt : inB goal many = false := pt
        clear pt
        go_enter Try.func61, Try.ntmps61
        go_wp2_with (first
            | (go_at_call 86; refine (parts_20 _).mono ?_; rintro e w' ⟨rfl, rfl⟩)
            | (go_at_call 87; refine (has_lit _ _ true _ rfl (by decide)).mono ?_; rintro e w' ⟨rfl, rfl⟩)
            | (go_at_call 87; refine (has_lit _ _ false _ rfl (by decide)).mono ?_; rintro e w' ⟨rfl, rfl⟩)
            | (go_at_call 88; refine (in07_any _ _ _).mono ?_; rintro e w' ⟨rfl, rfl⟩))
        go_ret
        exact ⟨by rw [HN.out]; rfl, hB0.out⟩
      · have Pt := Lib.hid pt
        have qt : inB goal many = true := pt
        clear pt
        by_cases pe : n1 = 0
        · have PE := Lib.hid (show codeB false le regs = true from codeB_nil (N1.out.trans pe))
          subst pe
          by_cases pf : n2 = 0
          · have PF := Lib.hid (show codeB false lf regs = true from codeB_nil (N2.out.trans pf))
            subst pf
            cases ne
            all_goals
              go_enter Try.func61, Try.ntmps61
              go_wp2_with (first
                  | (go_at_call 86; refine (parts_20 _).mono ?_; rintro e w' ⟨rfl, rfl⟩)
                  | (go_at_call 87; refine (has_lit _ _ true _ rfl (by decide)).mono ?_; rintro e w' ⟨rfl, rfl⟩)
                  | (go_at_call 87; refine (has_lit _ _ false _ rfl (by decide)).mono ?_; rintro e w' ⟨rfl, rfl⟩)
                  | (go_at_call 88; refine (in07_any _ _ _).mono ?_; rintro e w' ⟨rfl, rfl⟩))
              go_ret
              exact ⟨by rw [← HR.out, Pr.out, Pl.out, Pt.out, PE.out, PF.out]; rfl, hB0.out⟩
          · have HN := Lib.hid (show res = false from HR.out.symm.trans (and_no_f (codeB_no N2.out (by omega))))
            have g2 : 0 < n2 := by omega
            go_enter Try.func61, Try.ntmps61
            go_wp2_with (first
                | (go_at_call 86; refine (parts_20 _).mono ?_; rintro e w' ⟨rfl, rfl⟩)
                | (go_at_call 87; refine (has_lit _ _ true _ rfl (by decide)).mono ?_; rintro e w' ⟨rfl, rfl⟩)
                | (go_at_call 87; refine (has_lit _ _ false _ rfl (by decide)).mono ?_; rintro e w' ⟨rfl, rfl⟩)
                | (go_at_call 88; refine (in07_any _ _ _).mono ?_; rintro e w' ⟨rfl, rfl⟩))
            go_ret
            exact ⟨by rw [HN.out]; rfl, hB0.out⟩
        · have HN := Lib.hid (show res = false from HR.out.symm.trans (and_no_e (codeB_no N1.out (by omega))))
          have g1 : 0 < n1 := by omega
          go_enter Try.func61, Try.ntmps61
          go_wp2_with (first
              | (go_at_call 86; refine (parts_20 _).mono ?_; rintro e w' ⟨rfl, rfl⟩)
              | (go_at_call 87; refine (has_lit _ _ true _ rfl (by decide)).mono ?_; rintro e w' ⟨rfl, rfl⟩)
              | (go_at_call 87; refine (has_lit _ _ false _ rfl (by decide)).mono ?_; rintro e w' ⟨rfl, rfl⟩)
              | (go_at_call 88; refine (in07_any _ _ _).mono ?_; rintro e w' ⟨rfl, rfl⟩))
          go_ret
          exact ⟨by rw [HN.out]; rfl, hB0.out⟩

set_option maxRecDepth 100000 in
set_option maxHeartbeats 4000000 in
theorem one07_21 (reg loc : Int) (le lf : List OpS) (ne : Bool) (goal : Int) (ve vf : Value) (regs locs many : Int) (w : World) (he : Sl rOp w ve le) (hf : Sl rOp w vf lf) :
    Calls Try.prog 61 #[.agg #[.int .i64 21, .int .i64 reg, .int .i64 loc, ve, vf, .bool ne, .int .i64 goal], .int .i64 regs, .int .i64 locs, .int .i64 many] w (BoolBelow (instrOk regs locs many ⟨21, reg, loc, le, lf, ne, goal⟩) w) := by
  have hl1 := he.len
  have hl2 := hf.len
  have HE := Lib.hid he; have HF := Lib.hid hf
  obtain ⟨ae, ce, rfl, h1⟩ := ops_view he
  obtain ⟨af, cf, rfl, h2⟩ := ops_view hf
  clear he hf h1 h2
  obtain ⟨n1, hn1⟩ : ∃ n, le.length = n := ⟨_, rfl⟩
  obtain ⟨n2, hn2⟩ : ∃ n, lf.length = n := ⟨_, rfl⟩
  rw [hn1] at hl1 HE ⊢
  rw [hn2] at hl2 HF ⊢
  have N1 := Lib.hid hn1; have N2 := Lib.hid hn2; clear hn1 hn2
  obtain ⟨res, hres⟩ : ∃ r, instrOk regs locs many ⟨21, reg, loc, le, lf, ne, goal⟩ = r := ⟨_, rfl⟩
  have HR : Hid (((!ne || false) && placeB false reg regs && placeB false loc locs && placeB true goal many && codeB true le regs && codeB false lf regs) = res) := hres
  rw [hres]
  clear hres
  have hB0 := Lib.hid (show Below w.heap.size w (w.alloc (.cells #[.int .i64 21, .int .i64 reg, .int .i64 loc, .slice ae n1 ce, .slice af n2 cf, .bool ne, .int .i64 goal] 81)) from (Below.refl _ _).alloc (Nat.le_refl _) _)
  cases pr : placeB false reg regs
  · have HN := Lib.hid (show res = false by rw [← HR.out, pr]; simp)
    have qr : (reg == 0) = false := by simpa [placeB] using pr
    have qr2 : (reg != 0) = true := by simpa [placeB] using pr
    clear pr
    go_enter Try.func61, Try.ntmps61
    go_wp2_with (first
        | (go_at_call 86; refine (parts_21 _).mono ?_; rintro e w' ⟨rfl, rfl⟩)
        | (go_at_call 87; refine (has_lit _ _ true _ rfl (by decide)).mono ?_; rintro e w' ⟨rfl, rfl⟩)
        | (go_at_call 87; refine (has_lit _ _ false _ rfl (by decide)).mono ?_; rintro e w' ⟨rfl, rfl⟩)
        | (go_at_call 88; refine (in07_any _ _ _).mono ?_; rintro e w' ⟨rfl, rfl⟩))
    go_ret
    exact ⟨by rw [HN.out]; rfl, hB0.out⟩
  · have Pr := Lib.hid pr
    have qr : (reg == 0) = true := by simpa [placeB] using pr
    have qr2 : (reg != 0) = false := by simpa [placeB] using pr
    clear pr
    cases pl : placeB false loc locs
    · have HN := Lib.hid (show res = false by rw [← HR.out, pl]; simp)
      have ql : (loc == 0) = false := by simpa [placeB] using pl
      have ql2 : (loc != 0) = true := by simpa [placeB] using pl
      clear pl
      go_enter Try.func61, Try.ntmps61
      go_wp2_with (first
          | (go_at_call 86; refine (parts_21 _).mono ?_; rintro e w' ⟨rfl, rfl⟩)
          | (go_at_call 87; refine (has_lit _ _ true _ rfl (by decide)).mono ?_; rintro e w' ⟨rfl, rfl⟩)
          | (go_at_call 87; refine (has_lit _ _ false _ rfl (by decide)).mono ?_; rintro e w' ⟨rfl, rfl⟩)
          | (go_at_call 88; refine (in07_any _ _ _).mono ?_; rintro e w' ⟨rfl, rfl⟩))
      go_ret
      exact ⟨by rw [HN.out]; rfl, hB0.out⟩
    · have Pl := Lib.hid pl
      have ql : (loc == 0) = true := by simpa [placeB] using pl
      have ql2 : (loc != 0) = false := by simpa [placeB] using pl
      clear pl
      cases pt : placeB true goal many
      · have HN := Lib.hid (show res = false by rw [← HR.out, pt]; simp)
        have qt : inB goal many = false := pt
        clear pt
        go_enter Try.func61, Try.ntmps61
        go_wp2_with (first
            | (go_at_call 86; refine (parts_21 _).mono ?_; rintro e w' ⟨rfl, rfl⟩)
            | (go_at_call 87; refine (has_lit _ _ true _ rfl (by decide)).mono ?_; rintro e w' ⟨rfl, rfl⟩)
            | (go_at_call 87; refine (has_lit _ _ false _ rfl (by decide)).mono ?_; rintro e w' ⟨rfl, rfl⟩)
            | (go_at_call 88; refine (in07_any _ _ _).mono ?_; rintro e w' ⟨rfl, rfl⟩))
        go_ret
        exact ⟨by rw [HN.out]; rfl, hB0.out⟩
      · have Pt := Lib.hid pt
        have qt : inB goal many = true := pt
        clear pt
        go_enter Try.func61, Try.ntmps61
        go_wp2_with (first
            | (go_at_call 86; refine (parts_21 _).mono ?_; rintro e w' ⟨rfl, rfl⟩)
            | (go_at_call 87; refine (has_lit _ _ true _ rfl (by decide)).mono ?_; rintro e w' ⟨rfl, rfl⟩)
            | (go_at_call 87; refine (has_lit _ _ false _ rfl (by decide)).mono ?_; rintro e w' ⟨rfl, rfl⟩)
            | (go_at_call 88; refine (in07_any _ _ _).mono ?_; rintro e w' ⟨rfl, rfl⟩))
        have c4 := new_cell w #[.int .i64 21, .int .i64 reg, .int .i64 loc, .slice ae n1 ce, .slice af n2 cf, .bool ne, .int .i64 goal] 81 4 _ rfl
        have c5 := new_cell w #[.int .i64 21, .int .i64 reg, .int .i64 loc, .slice ae n1 ce, .slice af n2 cf, .bool ne, .int .i64 goal] 81 5 _ rfl
        have hWs : w.heap.size < (w.alloc (.cells #[.int .i64 21, .int .i64 reg, .int .i64 loc, .slice ae n1 ce, .slice af n2 cf, .bool ne, .int .i64 goal] 81)).heap.size := by simp
        have HW := hB0
        clear hB0
        generalize w.alloc (.cells #[.int .i64 21, .int .i64 reg, .int .i64 loc, .slice ae n1 ce, .slice af n2 cf, .bool ne, .int .i64 goal] 81) = W at *
        refine (rightC06_any le [] regs 0 _ _ _ (HE.out.mono mono_op HW.out) (Sl.nil _ _)).mono ?_
        rintro e w2 ⟨rfl, hb⟩
        have r4 := cell_later hb c4
        have r5 := cell_later hb c5
        have HX := Lib.hid (HW.out.trans (hb.mono HW.out.size))
        have hW2 := hb.size
        clear hb c4 c5
        cases pe : rightC le [] regs 0
        · have HN := Lib.hid (show res = false from HR.out.symm.trans (and_no_e (e := codeB true le regs) pe))
          clear pe
          go_wp2_with (first
              | (go_at_call 86; refine (parts_21 _).mono ?_; rintro e w' ⟨rfl, rfl⟩)
              | (go_at_call 87; refine (has_lit _ _ true _ rfl (by decide)).mono ?_; rintro e w' ⟨rfl, rfl⟩)
              | (go_at_call 87; refine (has_lit _ _ false _ rfl (by decide)).mono ?_; rintro e w' ⟨rfl, rfl⟩)
              | (go_at_call 88; refine (in07_any _ _ _).mono ?_; rintro e w' ⟨rfl, rfl⟩))
          go_ret
          exact ⟨by rw [HN.out]; rfl, HX.out⟩
        · have PE : Hid (codeB true le regs = true) := pe
          clear pe
          by_cases pf : n2 = 0
          · have PF := Lib.hid (show codeB false lf regs = true from codeB_nil (N2.out.trans pf))
            subst pf
            cases ne
            all_goals
              go_wp2_with (first
                  | (go_at_call 86; refine (parts_21 _).mono ?_; rintro e w' ⟨rfl, rfl⟩)
                  | (go_at_call 87; refine (has_lit _ _ true _ rfl (by decide)).mono ?_; rintro e w' ⟨rfl, rfl⟩)
                  | (go_at_call 87; refine (has_lit _ _ false _ rfl (by decide)).mono ?_; rintro e w' ⟨rfl, rfl⟩)
                  | (go_at_call 88; refine (in07_any _ _ _).mono ?_; rintro e w' ⟨rfl, rfl⟩))
              go_ret
              exact ⟨by rw [← HR.out, Pr.out, Pl.out, Pt.out, PE.out, PF.out]; rfl, HX.out⟩
          · have HN := Lib.hid (show res = false from HR.out.symm.trans (and_no_f (codeB_no N2.out (by omega))))
            have g2 : 0 < n2 := by omega
            go_wp2_with (first
                | (go_at_call 86; refine (parts_21 _).mono ?_; rintro e w' ⟨rfl, rfl⟩)
                | (go_at_call 87; refine (has_lit _ _ true _ rfl (by decide)).mono ?_; rintro e w' ⟨rfl, rfl⟩)
                | (go_at_call 87; refine (has_lit _ _ false _ rfl (by decide)).mono ?_; rintro e w' ⟨rfl, rfl⟩)
                | (go_at_call 88; refine (in07_any _ _ _).mono ?_; rintro e w' ⟨rfl, rfl⟩))
            go_ret
            exact ⟨by rw [HN.out]; rfl, HX.out⟩

end Go.Proofs.Ytaocgmkcjemecaa
