/- Parts of the proofs: what they lean on. Conditions: none. -/
import Derived.Handy
import Derived.Test.YtmaklniljnbokaaRpbS10
section
namespace Go.Proofs.Ytmaklniljnbokaa
open Go.RowKit
set_option linter.unusedVariables false
set_option linter.unusedSimpArgs false
set_option maxRecDepth 100000

def Agt.val : Agt → Value
  | .thr t => .iface 98 (.int .i64 t)
  | .fl t l => .iface 100 (.agg #[.int .i64 t, .int .i64 l])
/-- One that there is, in bounds. -/
def Agt.ok : Agt → Prop
  | .thr t => 0 ≤ t ∧ t ≤ 1000
  | .fl t l => (0 ≤ t ∧ t ≤ 1000) ∧ -1 ≤ l ∧ l ≤ 1000
theorem rep_agt {S : Nat → Nat → Prop} {w : World} {a : Agt} {vs : List Value} (h : Reps S w [] [] a.cell vs) : vs = [a.val] := by
  cases a with
  | thr t =>
    cases h with | cons _ _ _ x _ _ h1 hr =>
    cases hr
    obtain ⟨u, hu, rfl⟩ := h1.ifc_inv
    rw [hu.int_inv.1]; rfl
  | fl t l =>
    cases h with | cons _ _ _ x _ _ h1 hr =>
    cases hr
    obtain ⟨u, hu, rfl⟩ := h1.ifc_inv
    obtain ⟨us, hus, _, rfl⟩ := hu.agg_inv
    cases hus with | cons _ _ _ y _ _ g1 hus =>
    cases hus with | cons _ _ _ z _ _ g2 hus =>
    cases hus
    rw [g1.int_inv.1, g2.int_inv.1]; rfl
theorem agents_len (u : UnitS) (m : Int) : (agentsL u m).length ≤ 28 := by
  unfold agentsL
  split
  · rename_i h
    have ⟨l2, l3, l4⟩ : 1 ≤ u.regs.length ∧ u.regs.length ≤ 4 ∧ u.init.length ≤ 6 := by
      have hu := h.1
      simp only [rightU, headOk, Bool.and_eq_true, decide_eq_true_eq] at hu
      omega
    rw [List.length_append, thrs_len]
    split
    · rw [fls2_len]; omega
    · split
      · rw [fls3_len]
        have : u.regs.length * u.init.length ≤ 4 * 6 := Nat.mul_le_mul l3 l4
        omega
      · simp; omega
  · simp
theorem agents_ok (u : UnitS) (m : Int) : ∀ a ∈ agentsL u m, a.ok := by
  unfold agentsL
  split
  · rename_i h
    have ⟨l2, l3, l4⟩ : 1 ≤ u.regs.length ∧ u.regs.length ≤ 4 ∧ u.init.length ≤ 6 := by
      have hu := h.1
      simp only [rightU, headOk, Bool.and_eq_true, decide_eq_true_eq] at hu
      omega
    intro a ha
    rcases List.mem_append.1 ha with ha | ha
    · obtain ⟨t, ht, rfl⟩ := List.mem_map.1 ha
      have := List.mem_range.1 ht
      exact ⟨by omega, by omega⟩
    · split at ha
      · obtain ⟨t, ht, rfl⟩ := List.mem_map.1 ha
        have := List.mem_range.1 ht
        exact ⟨⟨by omega, by omega⟩, by omega, by omega⟩
      · split at ha
        · obtain ⟨t, ht, ha⟩ := List.mem_flatMap.1 ha
          obtain ⟨l, hl, rfl⟩ := List.mem_map.1 ha
          have := List.mem_range.1 ht
          have := List.mem_range.1 hl
          exact ⟨⟨by omega, by omega⟩, by omega, by omega⟩
        · cases ha
  · intro a ha; cases ha

/-- A row of them lies there. -/
def AgtsAt (w : World) (r : Value) (l : List Agt) : Prop := ∃ a cap, r = .slice a l.length cap ∧ l.length ≤ cap ∧ cap ≤ maxLen ∧ ∀ i (h : i < l.length), ∃ b o, a = some ⟨b, o, none⟩ ∧ w.cell? ⟨b, o + i, none⟩ = some l[i].val
theorem agts_of {S : Nat → Nat → Prop} {w : World} {r : Value} {l : List Agt} (h : Rep S w [] [] (.sl 1 (l.map Agt.cell)) r) : AgtsAt w r l := by
  obtain ⟨vss, a, cap, h1, h2, h3, rfl⟩ := h.sl_inv
  refine ⟨a, cap, by rw [List.length_map], by have := h3.1; rwa [List.length_map] at this, h3.2.1, fun i hi => ?_⟩
  obtain ⟨vs, hv, hr, _⟩ := h1.get (i := i) (el := l[i].cell) (by rw [List.getElem?_map, List.getElem?_eq_getElem hi]; rfl)
  have hvs := rep_agt hr
  subst hvs
  obtain ⟨b, o, e, _, hc⟩ := h2.2 i _ 0 _ hv rfl
  exact ⟨b, o, e, by simpa using hc⟩

theorem wf_of {n : Int} (h : -9223372036854775808 ≤ n ∧ n ≤ 9223372036854775807) : (Lit.int .i64 n).wf = true := by
  rw [Lit.wf, Bool.and_eq_true]
  exact ⟨decide_eq_true (by show -9223372036854775808 ≤ _; omega), decide_eq_true (by show _ ≤ 9223372036854775807; omega)⟩
theorem call_rep {g : FuncId} {args : List AV} {res : AV} {n : Nat} (h : callN Try.prog HH XM n g args [] = some (res, [])) {w : World} {vs : List Value} (hr : Reps (SAll w) w [] [] args vs) : Calls Try.prog g vs.toArray w fun e w' => ∃ u S', e = .returned u ∧ Below w.heap.size w w' ∧ Rep S' w' [] [] res u := by
  refine (cN_sound XM_sound n false g args [] _ _ h w.heap.size (SAll w) w [] vs (sim_all w) hr).mono ?_
  rintro e w' ⟨u, S', φ', rfl, hu, hs', ht⟩
  have hφ : φ' = [] := List.eq_nil_of_length_eq_zero hs'.len
  subst hφ
  exact ⟨u, S', rfl, ht.below, hu⟩
theorem agents_any (u : UnitS) (m : Int) (v : Value) (w : World) (hv : Rep (SAll w) w [] [] (aU u) v) (hm : (Lit.int .i64 m).wf = true) : Calls Try.prog 48 #[v, .int .i64 m] w fun e w' => ∃ r, e = .returned r ∧ Below w.heap.size w w' ∧ AgtsAt w' r (agentsL u m) :=
  (call_rep (n := 200) (agents_abs (X := XM) rfl rfl u m 200 (by omega)) (vs := [v, .int .i64 m]) (.cons _ _ _ _ _ _ hv (.cons _ _ _ _ _ _ (.int _ _ _ _ hm) (.nil _ _)))).mono fun e w' ⟨r, S', h1, h2, h3⟩ => ⟨r, h1, h2, agts_of h3⟩
theorem tname_any (t : Int) (w : World) (h0 : 0 ≤ t) (h1 : t ≤ 1000) : Calls Try.prog 98 #[.int .i64 t] w fun e w' => e = .returned (.string (bs (Agt.thr t).name)) ∧ Below w.heap.size w w' :=
  (call_rep (n := 2001) (tname_abs (X := XM) rfl rfl 2001 t h0 h1 (by omega)) (vs := [.int .i64 t]) (.cons _ _ _ _ _ _ (.int _ _ _ _ (wf_of (by omega))) (.nil _ _))).mono fun e w' ⟨r, S', e1, h2, h3⟩ => ⟨by rw [e1, h3.str_inv.1], h2⟩
theorem fname_any (t l : Int) (w : World) (h : (Agt.fl t l).ok) : Calls Try.prog 102 #[.agg #[.int .i64 t, .int .i64 l]] w fun e w' => e = .returned (.string (bs (Agt.fl t l).name)) ∧ Below w.heap.size w w' := by
  obtain ⟨⟨h0, h1⟩, h2, h3⟩ := h
  exact (call_rep (n := 2001) (fname_abs (X := XM) rfl rfl 2001 t l h0 h1 h2 h3 (by omega)) (vs := [.agg #[.int .i64 t, .int .i64 l]]) (.cons _ _ _ _ _ _ (.agg _ _ _ [.int .i64 t, .int .i64 l] (.cons _ _ _ _ _ _ (.int _ _ _ _ (wf_of (by omega))) (.cons _ _ _ _ _ _ (.int _ _ _ _ (wf_of (by omega))) (.nil _ _))) (by intro v hv; simp at hv; rcases hv with rfl | rfl <;> rfl)) (.nil _ _))).mono fun e w' ⟨r, S', e1, h2, h3⟩ => ⟨by rw [e1, h3.str_inv.1], h2⟩

/-- A unit's value, in cells. -/
theorem unit_form {S : Nat → Nat → Prop} {w : World} {u : UnitS} {v : Value} (h : Rep S w [] [] (aU u) v) : ∃ a1 q1 c1 a2 q2 c2 a3 q3 c3, v = .agg #[.int .i64 u.mod, .slice a1 q1 c1, .slice a2 q2 c2, .slice a3 q3 c3] := by
  obtain ⟨vi, vr0, vc, rfl, s1, s2, s3, _, _⟩ := dec_unitV _ _ _ _ h
  obtain ⟨a1, c1, rfl, _⟩ := ints_view s1
  obtain ⟨a2, c2, rfl, _⟩ := ints_view s2
  obtain ⟨a3, c3, rfl, _⟩ := slices_view s3
  exact ⟨_, _, _, _, _, _, _, _, _, rfl⟩

set_option maxHeartbeats 4000000 in
theorem one_in (u : UnitS) (m : Int) (i : Nat) (v : Value) (w : World) (hv : Rep (SAll w) w [] [] (aU u) v) (hm : (Lit.int .i64 m).wf = true) (hi : i < (agentsL u m).length) : Calls Try.prog 44 #[v, .int .i64 m, .int .i64 (i : Int)] w fun e w' => e = .returned (.tuple #[(agentsL u m)[i].val, .bool true]) ∧ Below w.heap.size w w' := by
  have hl := agents_len u m
  obtain ⟨a1, q1, c1, a2, q2, c2, a3, q3, c3, rfl⟩ := unit_form hv
  have hb0 : Below w.heap.size w (w.alloc (.cells #[.int .i64 u.mod, .slice a1 q1 c1, .slice a2 q2 c2, .slice a3 q3 c3] 25)) := ((Below.refl _ _).alloc (Nat.le_refl _) _)
  have HC := Lib.hid (agents_any u m _ _ (Rep.mono (SAll.ext hb0) hv (.refl _ _)) hm)
  have HB := Lib.hid hb0
  have hg : (agentsL u m)[i]? = some (agentsL u m)[i] := List.getElem?_eq_getElem hi
  obtain ⟨x, hx⟩ : ∃ x, (agentsL u m)[i] = x := ⟨_, rfl⟩
  rw [hx] at hg ⊢
  have HG := Lib.hid hg; have HX := Lib.hid hx
  obtain ⟨n, hn⟩ : ∃ n, (agentsL u m).length = n := ⟨_, rfl⟩
  have HN := Lib.hid hn
  rw [hn] at hi hl
  clear hv hb0 hg hx hn
  go_enter Try.func44, Try.ntmps44
  go_wp2_with fail
  refine HC.out.mono ?_
  rintro e w1 ⟨r, rfl, hb1, a, cap, rfl, hc1, hc2, hcells⟩
  obtain ⟨b, o, rfl, hcell⟩ := hcells i (by rw [HN.out]; exact hi)
  rw [HX.out] at hcell
  rw [HN.out] at hc1 ⊢
  have HBB := Lib.hid (HB.out.trans (hb1.mono HB.out.size))
  clear hcells hb1 HB HC
  go_wp2_with fail
  exact bodyPost_ret (v := .tuple #[x.val, .bool true]) (by simp [results, Try.results44, go_sem]) rfl ⟨rfl, HBB.out⟩
set_option maxHeartbeats 4000000 in
theorem one_out (u : UnitS) (m : Int) (i : Int) (v : Value) (w : World) (hv : Rep (SAll w) w [] [] (aU u) v) (hm : (Lit.int .i64 m).wf = true) (hwf : (Lit.int .i64 i).wf = true) (hi : i < 0 ∨ ((agentsL u m).length : Int) ≤ i) : Calls Try.prog 44 #[v, .int .i64 m, .int .i64 i] w fun e w' => e = .returned (.tuple #[.nilIface, .bool false]) ∧ Below w.heap.size w w' := by
  have hl := agents_len u m
  obtain ⟨a1, q1, c1, a2, q2, c2, a3, q3, c3, rfl⟩ := unit_form hv
  have hb0 : Below w.heap.size w (w.alloc (.cells #[.int .i64 u.mod, .slice a1 q1 c1, .slice a2 q2 c2, .slice a3 q3 c3] 25)) := ((Below.refl _ _).alloc (Nat.le_refl _) _)
  have HC := Lib.hid (agents_any u m _ _ (Rep.mono (SAll.ext hb0) hv (.refl _ _)) hm)
  have HB := Lib.hid hb0
  obtain ⟨n, hn⟩ : ∃ n, (agentsL u m).length = n := ⟨_, rfl⟩
  have HN := Lib.hid hn
  rw [hn] at hi hl
  clear hv hb0 hn
  go_enter Try.func44, Try.ntmps44
  go_wp2_with fail
  refine HC.out.mono ?_
  rintro e w1 ⟨r, rfl, hb1, a, cap, rfl, hc1, hc2, hcells⟩
  rw [HN.out] at hc1 ⊢
  have HBB := Lib.hid (HB.out.trans (hb1.mono HB.out.size))
  clear hcells hb1 HB HC
  by_cases c0 : i < 0
  · go_wp2_with fail
    exact bodyPost_ret (v := .tuple #[.nilIface, .bool false]) (by simp [results, Try.results44, go_sem]) rfl ⟨rfl, HBB.out⟩
  · have c1 : (n : Int) ≤ i := by omega
    go_wp2_with fail
    exact bodyPost_ret (v := .tuple #[.nilIface, .bool false]) (by simp [results, Try.results44, go_sem]) rfl ⟨rfl, HBB.out⟩
/-- The name of one, or none. -/
def nameU (u : UnitS) (m a : Int) : List UInt8 := if h : 0 ≤ a ∧ a.toNat < (agentsL u m).length then ((agentsL u m)[a.toNat]).name else []
set_option maxHeartbeats 4000000 in
theorem machName_any (u : UnitS) (m i : Int) (v : Value) (w : World) (hv : Rep (SAll w) w [] [] (aU u) v) (hm : (Lit.int .i64 m).wf = true) (hwf : (Lit.int .i64 i).wf = true) : Calls Try.prog 31 #[v, .int .i64 m, .int .i64 i] w fun e w' => e = .returned (.string (bs (nameU u m i))) ∧ Below w.heap.size w w' := by
  obtain ⟨a1, q1, c1, a2, q2, c2, a3, q3, c3, rfl⟩ := unit_form hv
  have hb0 : Below w.heap.size w (w.alloc (.cells #[.int .i64 u.mod, .slice a1 q1 c1, .slice a2 q2 c2, .slice a3 q3 c3] 25)) := ((Below.refl _ _).alloc (Nat.le_refl _) _)
  have hv0 := Rep.mono (SAll.ext hb0) hv (.refl _ _)
  have HB := Lib.hid hb0
  by_cases hi : 0 ≤ i ∧ i.toNat < (agentsL u m).length
  · obtain ⟨k, rfl⟩ : ∃ k : Nat, i = k := ⟨i.toNat, by omega⟩
    have hk : k < (agentsL u m).length := by simpa using hi.2
    have hN : nameU u m k = ((agentsL u m)[k]).name := by unfold nameU; rw [dif_pos hi]; rfl
    rw [hN]
    have HC := Lib.hid (one_in u m k _ _ hv0 hm hk)
    have hok := agents_ok u m _ (List.getElem_mem hk)
    obtain ⟨x, hx⟩ : ∃ x, (agentsL u m)[k] = x := ⟨_, rfl⟩
    rw [hx] at hok HC ⊢
    clear hv hb0 hv0 hN hx hi
    go_enter Try.func31, Try.ntmps31
    go_wp2_with fail
    refine HC.out.mono ?_
    rintro e w1 ⟨rfl, hb1⟩
    have HBB := Lib.hid (HB.out.trans (hb1.mono HB.out.size))
    clear hb1 HB HC
    cases x with
    | thr t =>
      have HT := Lib.hid (tname_any t w1 hok.1 hok.2)
      simp only [Agt.val]
      go_wp2_with fail
      refine HT.out.mono ?_
      rintro e w2 ⟨rfl, hb2⟩
      have HB3 := Lib.hid (HBB.out.trans (hb2.mono HBB.out.size))
      clear hb2 HBB HT
      go_wp2_with fail
      go_ret
      exact ⟨rfl, HB3.out⟩
    | fl t l =>
      have HT := Lib.hid (fname_any t l w1 hok)
      simp only [Agt.val]
      go_wp2_with fail
      refine HT.out.mono ?_
      rintro e w2 ⟨rfl, hb2⟩
      have HB3 := Lib.hid (HBB.out.trans (hb2.mono HBB.out.size))
      clear hb2 HBB HT
      go_wp2_with fail
      go_ret
      exact ⟨rfl, HB3.out⟩
  · have hN : nameU u m i = [] := by unfold nameU; rw [dif_neg hi]
    rw [hN]
    have HC := Lib.hid (one_out u m i _ _ hv0 hm hwf (by omega))
    clear hv hb0 hv0 hN hi
    go_enter Try.func31, Try.ntmps31
    go_wp2_with fail
    refine HC.out.mono ?_
    rintro e w1 ⟨rfl, hb1⟩
    have HBB := Lib.hid (HB.out.trans (hb1.mono HB.out.size))
    clear hb1 HB HC
    go_wp2_with fail
    go_ret
    exact ⟨rfl, HBB.out⟩
/-- The number of a name, or none. -/
def numU (u : UnitS) (m : Int) (s : List UInt8) : Int := match (agentsL u m).findIdx? (fun a => a.name == s) with
  | some i => i
  | none => -1
set_option maxHeartbeats 4000000 in
theorem machNumber_any (u : UnitS) (m : Int) (s : List UInt8) (v : Value) (w : World) (hv : Rep (SAll w) w [] [] (aU u) v) (hm : (Lit.int .i64 m).wf = true) : Calls Try.prog 46 #[v, .int .i64 m, .string (bs s)] w fun e w' => e = .returned (.int .i64 (numU u m s)) ∧ Below w.heap.size w w' := by
  obtain ⟨a1, q1, c1, a2, q2, c2, a3, q3, c3, rfl⟩ := unit_form hv
  have hb0 : Below w.heap.size w (w.alloc (.cells #[.int .i64 u.mod, .slice a1 q1 c1, .slice a2 q2 c2, .slice a3 q3 c3] 25)) := ((Below.refl _ _).alloc (Nat.le_refl _) _)
  have HC := Lib.hid (agents_any u m _ _ (Rep.mono (SAll.ext hb0) hv (.refl _ _)) hm)
  have HB := Lib.hid hb0
  have hl := agents_len u m
  have hok := Lib.hid (agents_ok u m)
  obtain ⟨L, hL⟩ : ∃ L, agentsL u m = L := ⟨_, rfl⟩
  obtain ⟨z, hz⟩ : ∃ z, numU u m s = z := ⟨_, rfl⟩
  rw [hz]
  unfold numU at hz
  rw [hL] at HC hl hok hz
  have HZ := Lib.hid hz
  obtain ⟨n, hn⟩ : ∃ n, L.length = n := ⟨_, rfl⟩
  have HN := Lib.hid hn
  rw [hn] at hl
  clear hv hb0 hL hn hz
  go_enter Try.func46, Try.ntmps46
  go_wp2_with fail
  refine HC.out.mono ?_
  rintro e w1 ⟨r, rfl, hb1, a, cap, rfl, hc1, hc2, hcells⟩
  rw [HN.out] at hc1 ⊢
  have HCE := Lib.hid hcells
  have HBB := Lib.hid (HB.out.trans (hb1.mono HB.out.size))
  have HSZ := Lib.hid (show w.heap.size ≤ w1.heap.size from HBB.out.size)
  clear hcells hb1 HB HC
  go_wp2_with fail
  go_loopw [13] (fun i wr => ∃ k : Nat, i = .int .i64 k ∧ k ≤ n ∧ Below w1.heap.size w1 wr ∧ ∀ j (h : j < L.length), j < k → L[j].name ≠ s) (fun i _ => n - (intOf i).toNat)
  case atStart => exact ⟨0, rfl, by omega, Below.refl _ _, fun j h hj => by omega⟩
  case round =>
    obtain ⟨k, rfl, hk, hb, hne⟩ := hrel
    have HW := Lib.hid hb
    have HNE := Lib.hid hne
    clear hb hne
    by_cases hlt : k < n
    · have hkl : k < L.length := by have := HN.out; omega
      obtain ⟨b, o, rfl, hcell⟩ := HCE.out k hkl
      have y1 := cell_later HW.out hcell
      have hkok := hok.out _ (List.getElem_mem hkl)
      obtain ⟨x, hx⟩ : ∃ x, L[k] = x := ⟨_, rfl⟩
      rw [hx] at y1 hkok
      have HX := Lib.hid hx
      clear hcell hx
      by_cases hnm : x.name = s
      · have hcmp : (x.name == s) = true := by rw [hnm]; simp
        have hfind : L.findIdx? (fun a => a.name == s) = some k := by
          rw [List.findIdx?_eq_some_iff_getElem]
          refine ⟨hkl, by rw [HX.out, hnm]; simp, fun j hj => ?_⟩
          have := HNE.out j (by omega) hj
          simpa using this
        have HF := Lib.hid (show z = (k : Int) by have := HZ.out; rw [hfind] at this; exact this.symm)
        clear hfind
        cases x with
        | thr t =>
          have HT := Lib.hid (fun wr => tname_any t wr hkok.1 hkok.2)
          simp only [Agt.val] at y1
          go_wp2_with fail
          refine (HT.out _).mono ?_
          rintro e w2 ⟨rfl, hb2⟩
          have HB3 := Lib.hid (HBB.out.trans ((HW.out.trans (hb2.mono HW.out.size)).mono HSZ.out))
          clear hb2
          go_wp2_with fail
          go_ret
          rw [HF.out]
          exact ⟨rfl, HB3.out⟩
        | fl t l =>
          have HT := Lib.hid (fun wr => fname_any t l wr hkok)
          simp only [Agt.val] at y1
          go_wp2_with fail
          refine (HT.out _).mono ?_
          rintro e w2 ⟨rfl, hb2⟩
          have HB3 := Lib.hid (HBB.out.trans ((HW.out.trans (hb2.mono HW.out.size)).mono HSZ.out))
          clear hb2
          go_wp2_with fail
          go_ret
          rw [HF.out]
          exact ⟨rfl, HB3.out⟩
      · have hcmp : (x.name == s) = false := beq_eq_false_iff_ne.2 hnm
        have HNE2 := Lib.hid (show ∀ j (h : j < L.length), j < k + 1 → L[j].name ≠ s from fun j h hj => by
          rcases Nat.lt_or_ge j k with h' | h'
          · exact HNE.out j h h'
          · obtain rfl : j = k := by omega
            rw [HX.out]; exact hnm)
        cases x with
        | thr t =>
          have HT := Lib.hid (fun wr => tname_any t wr hkok.1 hkok.2)
          simp only [Agt.val] at y1
          go_wp2_with fail
          refine (HT.out _).mono ?_
          rintro e w2 ⟨rfl, hb2⟩
          have HB3 := Lib.hid (HW.out.trans (hb2.mono HW.out.size))
          clear hb2
          go_wp2_with fail
          exact ⟨⟨k + 1, rfl, by omega, HB3.out, HNE2.out⟩, by simp [intOf]; omega⟩
        | fl t l =>
          have HT := Lib.hid (fun wr => fname_any t l wr hkok)
          simp only [Agt.val] at y1
          go_wp2_with fail
          refine (HT.out _).mono ?_
          rintro e w2 ⟨rfl, hb2⟩
          have HB3 := Lib.hid (HW.out.trans (hb2.mono HW.out.size))
          clear hb2
          go_wp2_with fail
          exact ⟨⟨k + 1, rfl, by omega, HB3.out, HNE2.out⟩, by simp [intOf]; omega⟩
    · have hkn : k = n := by omega
      have hfind : L.findIdx? (fun a => a.name == s) = none := by
        rw [List.findIdx?_eq_none_iff]
        intro x hx
        obtain ⟨j, hj, rfl⟩ := List.getElem_of_mem hx
        have := HNE.out j hj (by have := HN.out; omega)
        simpa using this
      have HF := Lib.hid (show z = -1 by have := HZ.out; rw [hfind] at this; exact this.symm)
      clear hfind
      subst hkn
      go_wp2_with fail
      go_ret
      rw [HF.out]
      exact ⟨rfl, HBB.out.trans (HW.out.mono HSZ.out)⟩
end Go.Proofs.Ytmaklniljnbokaa
end

