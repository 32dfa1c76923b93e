/- Parts of the proofs: what they lean on. Conditions: none. -/
import Derived.Test.YtmaklniljnbokaaProg
import Derived.Test.YtmaklniljnbokaaRepS12
section
namespace Go.Proofs.Ytmaklniljnbokaa
open Go.RowKit Go.WideShapes
set_option linter.unusedVariables false
set_option linter.unusedSimpArgs false

theorem okWide_struct' {P : Program} {w : World} {r : Reach} {base : Nat} {t : TypeId} {v : Value} {fs : Array Field} (ht : P.underlying t = some (.struct fs)) (h : Value.okWide P w r base t v) : ∃ cs, v = .agg cs := by
  simp only [Value.okWide, ht] at h
  obtain ⟨cs, rfl, _⟩ := h
  exact ⟨cs, rfl⟩
end Go.Proofs.Ytmaklniljnbokaa
end

section
namespace Go.Proofs.Ytmaklniljnbokaa
set_option linter.unusedVariables false
set_option linter.unusedSimpArgs false
theorem rep_agg {α : Type} {r : Rd α} {enc : α → List AV} (he : Enc r enc) {W : World} {cs : Array Value} {x : α} (h : r.rel W (Value.agg cs).cells.toList x) : Rep (SAll W) W [] [] (.agg (enc x)) (.agg cs) := by
  obtain ⟨h1, h2⟩ := he _ _ _ h
  cases cs
  exact .agg _ _ _ _ h1 h2
theorem bs_inj {a b : List UInt8} (h : bs a = bs b) : a = b := by
  have := congrArg (fun x : ByteArray => x.data.toList) h
  simpa [bs] using this
def rd_int_i64 : Rd Int := rInt .i64
theorem op_int_i64 : Opens Try.prog 3 rd_int_i64 := opens_int Try.underlying3 (by kernel_rfl)
theorem en_int_i64 : Enc rd_int_i64 encI := enc_int _
def rd_sl_int : Rd (List Int) := rSlice rd_int_i64
theorem op_sl_int : Opens Try.prog 22 rd_sl_int := opens_slice Try.underlying22 (by kernel_rfl) op_int_i64 (by decide)
theorem en_sl_int : Enc rd_sl_int (fun l => [AV.sl 1 (l.map encI)]) := enc_slice en_int_i64
def rd_api_Op : Rd OpS := rMap (fun x => ⟨x.1, x.2.1, x.2.2⟩) (rPair rd_int_i64 (rPair rd_int_i64 rd_int_i64))
theorem op_api_Op : Opens Try.prog 70 rd_api_Op := opens_map _ (opens_struct Try.underlying70 (by kernel_rfl) (fields_cons rfl op_int_i64 (fields_cons rfl op_int_i64 (fields_one rfl op_int_i64) (by decide)) (by decide)))
theorem en_api_Op : Enc rd_api_Op encOp := enc_map (fun _ => rfl) (enc_pair en_int_i64 (enc_pair en_int_i64 en_int_i64))
def rd_sl_api_Op : Rd (List OpS) := rSlice rd_api_Op
theorem op_sl_api_Op : Opens Try.prog 58 rd_sl_api_Op := opens_slice Try.underlying58 (by kernel_rfl) op_api_Op (by decide)
theorem en_sl_api_Op : Enc rd_sl_api_Op (fun l => [AV.sl 3 (l.map encOp)]) := enc_slice en_api_Op
def rd_bool : Rd Bool := rBool
theorem op_bool : Opens Try.prog 4 rd_bool := opens_bool Try.underlying4 (by kernel_rfl)
theorem en_bool : Enc rd_bool encBl := enc_bool
def rd_api_Instr : Rd InstrS := rMap (fun x => ⟨x.1, x.2.1, x.2.2.1, x.2.2.2.1, x.2.2.2.2.1, x.2.2.2.2.2.1, x.2.2.2.2.2.2⟩) (rPair rd_int_i64 (rPair rd_int_i64 (rPair rd_int_i64 (rPair rd_sl_api_Op (rPair rd_sl_api_Op (rPair rd_bool rd_int_i64))))))
theorem op_api_Instr : Opens Try.prog 60 rd_api_Instr := opens_map _ (opens_struct Try.underlying60 (by kernel_rfl) (fields_cons rfl op_int_i64 (fields_cons rfl op_int_i64 (fields_cons rfl op_int_i64 (fields_cons rfl op_sl_api_Op (fields_cons rfl op_sl_api_Op (fields_cons rfl op_bool (fields_one rfl op_int_i64) (by decide)) (by decide)) (by decide)) (by decide)) (by decide)) (by decide)))
theorem en_api_Instr : Enc rd_api_Instr encIn := enc_map (fun _ => rfl) (enc_pair en_int_i64 (enc_pair en_int_i64 (enc_pair en_int_i64 (enc_pair en_sl_api_Op (enc_pair en_sl_api_Op (enc_pair en_bool en_int_i64))))))
def rd_sl_api_Instr : Rd (List InstrS) := rSlice rd_api_Instr
theorem op_sl_api_Instr : Opens Try.prog 57 rd_sl_api_Instr := opens_slice Try.underlying57 (by kernel_rfl) op_api_Instr (by decide)
theorem en_sl_api_Instr : Enc rd_sl_api_Instr (fun l => [AV.sl 7 (l.map encIn)]) := enc_slice en_api_Instr
def rd_sl_sl_api_Instr : Rd (List (List InstrS)) := rSlice rd_sl_api_Instr
theorem op_sl_sl_api_Instr : Opens Try.prog 23 rd_sl_sl_api_Instr := opens_slice Try.underlying23 (by kernel_rfl) op_sl_api_Instr (by decide)
theorem en_sl_sl_api_Instr : Enc rd_sl_sl_api_Instr (fun l => [AV.sl 1 (l.map encThr)]) := enc_slice en_sl_api_Instr
def rd_api_Unit : Rd UnitS := rMap (fun x => ⟨x.1, x.2.1, x.2.2.1, x.2.2.2⟩) (rPair rd_int_i64 (rPair rd_sl_int (rPair rd_sl_int rd_sl_sl_api_Instr)))
theorem op_api_Unit : Opens Try.prog 25 rd_api_Unit := opens_map _ (opens_struct Try.underlying25 (by kernel_rfl) (fields_cons rfl op_int_i64 (fields_cons rfl op_sl_int (fields_cons rfl op_sl_int (fields_one rfl op_sl_sl_api_Instr) (by decide)) (by decide)) (by decide)))
theorem en_api_Unit : Enc rd_api_Unit cellsU := enc_map (fun _ => rfl) (enc_pair en_int_i64 (enc_pair en_sl_int (enc_pair en_sl_int en_sl_sl_api_Instr)))
def rd_api_Result : Rd S_api_Result := rMap (fun x => ⟨x.1, x.2.1, x.2.2⟩) (rPair rd_bool (rPair rd_bool rd_sl_int))
theorem op_api_Result : Opens Try.prog 41 rd_api_Result := opens_map _ (opens_struct Try.underlying41 (by kernel_rfl) (fields_cons rfl op_bool (fields_cons rfl op_bool (fields_one rfl op_sl_int) (by decide)) (by decide)))
theorem en_api_Result : Enc rd_api_Result c_api_Result := enc_map (fun _ => rfl) (enc_pair en_bool (enc_pair en_bool en_sl_int))
def rd_sl_api_Result : Rd (List S_api_Result) := rSlice rd_api_Result
theorem op_sl_api_Result : Opens Try.prog 26 rd_sl_api_Result := opens_slice Try.underlying26 (by kernel_rfl) op_api_Result (by decide)
theorem en_sl_api_Result : Enc rd_sl_api_Result (fun l => [AV.sl 3 (l.map c_api_Result)]) := enc_slice en_api_Result
def rd_api_Verdict : Rd S_api_Verdict := rMap (fun x => ⟨x.1, x.2.1, x.2.2.1, x.2.2.2.1, x.2.2.2.2.1, x.2.2.2.2.2⟩) (rPair rd_int_i64 (rPair rd_sl_int (rPair rd_sl_int (rPair rd_sl_api_Result (rPair rd_int_i64 rd_int_i64)))))
theorem op_api_Verdict : Opens Try.prog 28 rd_api_Verdict := opens_map _ (opens_struct Try.underlying28 (by kernel_rfl) (fields_cons rfl op_int_i64 (fields_cons rfl op_sl_int (fields_cons rfl op_sl_int (fields_cons rfl op_sl_api_Result (fields_cons rfl op_int_i64 (fields_one rfl op_int_i64) (by decide)) (by decide)) (by decide)) (by decide)) (by decide)))
theorem en_api_Verdict : Enc rd_api_Verdict c_api_Verdict := enc_map (fun _ => rfl) (enc_pair en_int_i64 (enc_pair en_sl_int (enc_pair en_sl_int (enc_pair en_sl_api_Result (enc_pair en_int_i64 en_int_i64)))))
end Go.Proofs.Ytmaklniljnbokaa
end

section
namespace Go.Proofs.Ytmaklniljnbokaa
set_option linter.unusedVariables false
set_option linter.unusedSimpArgs false
set_option maxRecDepth 100000

theorem small_fit {v : S_api_Verdict} {n : Nat} (h : smallV v = true) (hn : 5000 < n) : fitV v n := by
  simp only [smallV, Bool.and_eq_true, decide_eq_true_eq, List.all_eq_true] at h
  obtain ⟨⟨h1, h2⟩, h3⟩ := h
  refine ⟨by omega, by omega, fun r hr => ?_, by omega, by omega, by omega⟩
  have := h3 r hr
  omega
theorem outT_le (n : Int) : (outT n).length ≤ 11 := by unfold outT; split <;> (try split) <;> simp
/-- A path behind a word, by the document. -/
def pathB (u : UnitS) (m : Int) (l : List Int) : List UInt8 := if l = [] then [] else 32 :: textU u m l
theorem pathT_B (u : UnitS) (m : Int) (w : List UInt8) (l : List Int) : pathT u m w l = w ++ pathB u m l := by
  unfold pathT pathB; split <;> simp
theorem pathB_len (u : UnitS) (m : Int) (l : List Int) : (pathB u m l).length ≤ 1 + 3001 * l.length := by
  have := textU_len u m l
  unfold pathB; split <;> simp <;> omega
theorem path24_m (n : Nat) (u : UnitS) (m : Int) (l : List Int) (hl : l.length ≤ 4000) (hn : 5000 < n) : m_ref24_path n u m l = some (pathB u m l) := by
  obtain ⟨n, rfl⟩ : ∃ j, n = j + 1 := ⟨n - 1, by omega⟩
  rw [m_ref24_path, pathB]
  by_cases h : l = []
  · subst h; rfl
  · have h0 : (((l.length : Nat) : Int) == 0) = false := by
      rw [beq_eq_false_iff_ne]; intro e; exact h (List.eq_nil_of_length_eq_zero (by omega))
    have := textU_len u m l
    rw [h0, cond_false, text16_m n u m l (by omega) (by omega), Option.bind_some, bif_decide (by simp only [List.length_cons, List.length_nil]; omega), if_neg h]
    rfl
theorem result24_m (n : Nat) (u : UnitS) (m : Int) (r : S_api_Result) (hl : r.f_Path.length ≤ 4000) (hn : 6000 < n) : m_ref24_result n u m r = some (resT u m r) := by
  obtain ⟨n, rfl⟩ : ∃ j, n = j + 1 := ⟨n - 1, by omega⟩
  have hb := pathB_len u m r.f_Path
  rw [m_ref24_result, resT, pathT_B, path24_m n u m _ hl (by omega)]
  have hc : ∀ a b c : List UInt8, a.length ≤ 20 → c.length ≤ 20 → b.length ≤ 20000000 → decide (a.length + b.length ≤ 140737488355328) = true ∧ decide ((a ++ b).length + c.length ≤ 140737488355328) = true := fun a b c h1 h2 h3 => ⟨decide_eq_true (by omega), decide_eq_true (by rw [List.length_append]; omega)⟩
  cases r.f_Holds <;> cases r.f_Has <;> simp only [cond_true, cond_false, Option.bind_some]
  · rfl
  · obtain ⟨h1, h2⟩ := hc ([99, 108, 97, 105, 109, 32, 102, 97, 105, 108, 115] ++ [32, 98, 121]) (pathB u m r.f_Path) [10] (by decide) (by decide) (by omega)
    rw [h1, h2]
    simp
  · rfl
  · obtain ⟨h1, h2⟩ := hc ([99, 108, 97, 105, 109, 32, 104, 111, 108, 100, 115] ++ [32, 98, 121]) (pathB u m r.f_Path) [10] (by decide) (by decide) (by omega)
    rw [h1, h2]
    simp
theorem resT_len (u : UnitS) (m : Int) (r : S_api_Result) (hl : r.f_Path.length ≤ 4000) : (resT u m r).length ≤ 13000000 := by
  have h2 := textU_len u m r.f_Path
  unfold resT pathT
  simp only [List.length_append, List.length_cons, List.length_nil]
  split <;> split <;> (try split) <;> simp <;> omega
theorem show24_L (n : Nat) (u : UnitS) (m : Int) (v : S_api_Verdict) (hl : ∀ r ∈ v.f_Results, r.f_Path.length ≤ 4000) (h8 : v.f_Results.length ≤ 8) (hn : 6000 < n) (h0 : List UInt8) (hh : h0.length ≤ 100000000) : ref24_Show_L0 n u m v n h0 0 = some (.out (h0 ++ v.f_Results.flatMap (resT u m))) := by
  have := loop_list0 v.f_Results (fun k i s => ref24_Show_L0 n u m v k s (i : Int)) (fun l s => some (.out (s ++ l.flatMap (resT u m)))) (fun i s => s.length ≤ 100000000 + 13000000 * i) (k := n) (s := h0) (by omega) (by simpa using hh) (fun k s _ => by rw [ref24_Show_L0, bif_not (by omega)]; simp) (fun k i s x hi hx hs ih => by
    have hx1 := hl x (List.mem_of_getElem? hx)
    have hx2 := resT_len u m x hx1
    rw [ref24_Show_L0, bif_decide (by omega), idx_some hx, Option.bind_some, result24_m n u m x hx1 hn, Option.bind_some, bif_decide (by omega), wrap_one i (by omega), ih _ (by rw [List.length_append]; omega)]
    simp)
  exact this
theorem show24_m (n : Nat) (u : UnitS) (m : Int) (v : S_api_Verdict) (hs : smallV v = true) (hn : 7000 < n) : m_ref24_Show n u m v = some (showT u m v) := by
  obtain ⟨n, rfl⟩ : ∃ j, n = j + 1 := ⟨n - 1, by omega⟩
  rw [m_ref24_Show, rright24_m n u m v (small_fit hs (by omega)), Option.bind_some, showT]
  cases hr : rightV u m v with
  | false => rfl
  | true =>
    have hr2 := hr
    simp only [rightV, Bool.and_eq_true, decide_eq_true_eq] at hr2
    obtain ⟨⟨⟨⟨⟨⟨ho, hst⟩, he⟩, h8⟩, _⟩, _⟩, _⟩ := hr2
    simp only [smallV, Bool.and_eq_true, decide_eq_true_eq, List.all_eq_true] at hs
    obtain ⟨⟨hp, hc⟩, hrs⟩ := hs
    rw [cond_true, if_pos rfl]
    obtain ⟨j, hj⟩ : ∃ j, n = j + 1 := ⟨n - 1, by omega⟩
    have hO : m_ref24_outcomes n = some [[], [116, 101, 114, 109, 105, 110, 97, 116, 105, 110, 103], [100, 101, 97, 100, 108, 111, 99, 107, 105, 110, 103], [108, 105, 118, 101, 108, 111, 99, 107, 105, 110, 103]] := by rw [hj]; rfl
    have hI : idx [[], [116, 101, 114, 109, 105, 110, 97, 116, 105, 110, 103], [100, 101, 97, 100, 108, 111, 99, 107, 105, 110, 103], [108, 105, 118, 101, 108, 111, 99, 107, 105, 110, 103]] v.f_Outcome = some (outT v.f_Outcome) := by
      obtain h | h | h : v.f_Outcome = 1 ∨ v.f_Outcome = 2 ∨ v.f_Outcome = 3 := by omega
      all_goals rw [h]; rfl
    have l0 := outT_le v.f_Outcome
    have l1 := decL_short v.f_States 5 (by omega) (by simp; omega)
    have l2 := decL_short v.f_Edges 7 (by omega) (by simp; omega)
    have l3 := pathB_len u m v.f_Prefix
    have l4 := pathB_len u m v.f_Cycle
    have hD1 := dig_m 5 n v.f_States (by omega) (by simp; omega) (by omega) (by omega)
    have hD2 := dig_m 7 n v.f_Edges (by omega) (by simp; omega) (by omega) (by omega)
    rw [hO, Option.bind_some, hI, Option.bind_some, hD1, hD2, path24_m n u m _ hp (by omega), path24_m n u m _ hc (by omega)]
    simp only [Option.bind_some]
    generalize ha : outT v.f_Outcome = a at *
    generalize hb1 : decL v.f_States = b1 at *
    generalize hb2 : decL v.f_Edges = b2 at *
    generalize hp1 : pathB u m v.f_Prefix = p1 at *
    generalize hp2 : pathB u m v.f_Cycle = p2 at *
    have key : ∀ x y : List UInt8, x.length ≤ 50000000 → y.length ≤ 50000000 → decide (x.length + y.length ≤ 140737488355328) = true := fun x y h1 h2 => decide_eq_true (by omega)
    rw [key _ _ (by simp) (by omega), cond_true]
    iterate 9 rw [key _ _ (by (try simp only [List.length_append, List.length_cons, List.length_nil]); omega) (by (try simp only [List.length_append, List.length_cons, List.length_nil]); omega), cond_true]
    rw [show24_L n u m v hrs h8 (by omega) _ (by simp only [List.length_append, List.length_cons, List.length_nil]; omega)]
    simp only [Option.bind_some, headT, pathT_B, ha, hb1, hb2, hp1, hp2]
    simp
theorem light24_L (n : Nat) (v : S_api_Verdict) (h : v.f_Results.length ≤ 20) {k : Nat} (hk : 20 < k) : law24_light_L0 n v k 0 = bif v.f_Results.all (fun r => decide (r.f_Path.length ≤ 60)) then some (.out ()) else some (.ret false) := by
  refine all_list v.f_Results (fun k i => law24_light_L0 n v k (i : Int)) (fun r => decide (r.f_Path.length ≤ 60)) (fun k => by rw [law24_light_L0, bif_not (by omega)]) (fun k i x hi hx => ?_) (k := k) (by omega)
  rw [law24_light_L0, bif_decide (by omega), idx_some hx, Option.bind_some, wrap_one i (by omega)]
  by_cases c : x.f_Path.length ≤ 60
  · rw [bif_not (by omega), decide_eq_true c]; rfl
  · rw [bif_decide (by omega), decide_eq_false c]; rfl
def lightV (u : UnitS) (v : S_api_Verdict) : Bool := lightU u && (decide (v.f_Prefix.length ≤ 60) && (decide (v.f_Cycle.length ≤ 60) && (decide (v.f_Results.length ≤ 20) && v.f_Results.all (fun r => decide (r.f_Path.length ≤ 60)))))
theorem light24_m (n : Nat) (u : UnitS) (v : S_api_Verdict) (hn : 100 < n) : m_law24_light n u v = some (lightV u v) := by
  obtain ⟨n, rfl⟩ : ∃ j, n = j + 2 := ⟨n - 2, by omega⟩
  rw [m_law24_light, m_ref07_Light, Option.bind_some, lightV]
  cases lightU u with
  | false => rfl
  | true =>
    rw [cond_true, Bool.true_and]
    by_cases c1 : v.f_Prefix.length ≤ 60
    rotate_left
    · rw [bif_decide (by omega), decide_eq_false c1]; rfl
    by_cases c2 : v.f_Cycle.length ≤ 60
    rotate_left
    · rw [bif_not (by omega), bif_decide (by omega), decide_eq_true c1, decide_eq_false c2]; rfl
    by_cases c3 : v.f_Results.length ≤ 20
    rotate_left
    · rw [bif_not (by omega), bif_not (by omega), bif_decide (by omega), decide_eq_true c1, decide_eq_true c2, decide_eq_false c3]; rfl
    rw [bif_not (by omega), bif_not (by omega), bif_not (by omega), decide_eq_true c1, decide_eq_true c2, decide_eq_true c3, light24_L _ v c3 (by omega)]
    cases v.f_Results.all (fun r => decide (r.f_Path.length ≤ 60)) <;> rfl
theorem light_small {u : UnitS} {v : S_api_Verdict} (h : lightV u v = true) : smallV v = true := by
  simp only [lightV, smallV, Bool.and_eq_true, decide_eq_true_eq, List.all_eq_true] at h ⊢
  exact ⟨⟨by omega, by omega⟩, fun r hr => by have := h.2.2.2.2 r hr; omega⟩
theorem rshow_m (n : Nat) (u : UnitS) (m : Int) (v : S_api_Verdict) (hs : smallV v = true) (hn : 0 < n) : m_report_Show n u m v = some (showT u m v) := by
  obtain ⟨n, rfl⟩ : ∃ j, n = j + 1 := ⟨n - 1, by omega⟩
  rw [m_report_Show, if_pos hs]
theorem reportShows_k {n : Nat} (hk : m_law24_known n = some true) (hn : 10000 < n) (u : UnitS) (m : Int) (v : S_api_Verdict) : m_law24_ReportShows (n + 1) u m v = some true := by
  rw [m_law24_ReportShows, light24_m n u v (by omega), Option.bind_some]
  cases hl : lightV u v with
  | false => rw [cond_false, hk]; rfl
  | true =>
    have hs := light_small hl
    rw [cond_true, rright_m n u m v (small_fit hs (by omega)), Option.bind_some, rright24_m n u m v (small_fit hs (by omega)), Option.bind_some, beq_self_eq_true, cond_true, rshow_m n u m v hs (by omega), Option.bind_some, show24_m n u m v hs (by omega), Option.bind_some, beq_self_eq_true, cond_true, hk]
    rfl
end Go.Proofs.Ytmaklniljnbokaa
end

section
namespace Go.Proofs.Ytmaklniljnbokaa
set_option linter.unusedVariables false
set_option maxRecDepth 100000
theorem known24 : m_law24_known 20000 = some true := by decide +kernel
end Go.Proofs.Ytmaklniljnbokaa
end

section
namespace Go.Proofs.Ytmaklniljnbokaa
theorem reportShows_m (u : UnitS) (m : Int) (v : S_api_Verdict) : m_law24_ReportShows 20001 u m v = some true := reportShows_k known24 (by omega) u m v
end Go.Proofs.Ytmaklniljnbokaa
end

section
namespace Go.Proofs.Ytmaklniljnbokaa
set_option linter.unusedVariables false
set_option linter.unusedSimpArgs false
set_option maxRecDepth 100000
set_option maxHeartbeats 4000000

theorem ok_report_cut {n:Nat} ⦃v0_s:(List UInt8)⦄ ⦃r:((List (List UInt8))×Bool)⦄:m_report_cut n v0_s=some r→CN n 36 [sA v0_s] []=some (AV.tup [AV.sl 1 (List.map encS r.1),bA r.2],[]):=by
 intro h;rcases n with _|n;cases h
 rw [m_report_cut] at h
 refine callN_eq' Try.func36 (by rfl) rfl rfl (Nat.le_of_ble_eq_true rfl) ?_
 intro call hc;conv=>lhs;whnf
 revert h
 intro h;refine bind_some2 h ?_;clear h;intro o11 ho11 h
 refine lq (σ:=(Int×Int×(List (List UInt8)))) (τ:=(List (List UInt8))) (ν:=((List (List UInt8))×Bool)) 0 (fun (s1,s2,s3) a5=>stOf 36 [(0,sA v0_s),(4,AV.row 0 (List.length s3)),(5,iA s1),(6,iA s2)]) (fun (s1,s2,s3) a5=>[Ob.row 9 1 (List.map encS s3)]) (fun x25 a24=>stOf 36 [(4,AV.row 0 (List.length x25))]) (fun x25 a24=>[Ob.row 9 1 (List.map encS x25)]) (fun v=>(AV.tup [AV.sl 1 (List.map encS v.1),bA v.2],[])) (fun k s=>report_cut_L0 n v0_s k s.1 s.2.1 s.2.2) (fun s=>rfl) o11 n (0,0,([]:List (List UInt8))) (fun _=>0) ho11 ?_ ?_
 intro k4 ss a5 K6 cont7 hK8 hcont9 h hr10
 obtain ⟨s1,s2,s3⟩:=ss
 replace h:report_cut_L0 n v0_s (k4+1) s1 s2 s3=some o11:=h
 rw [report_cut_L0] at h
 conv=>lhs;whnf
 revert h
 refine br ?_ ?_
 refine br ?_ ?_
 refine br ?_ ?_
 intro h;cases sj h
 refine (hK8 _ _).trans ?_
 refine Eq.trans ?_ (Eq.symm (show _=some _ from hr10))
 conv=>lhs;whnf
 exact rq
 refine cp ?_
 refine ar (ap encS (List.map encS s3) s3 ([[sA ((List.drop (s1.toNat) (List.take (s2.toNat) v0_s)))]]) ([(List.drop (s1.toNat) (List.take (s2.toNat) v0_s))]:List (List UInt8))) ?_
 exact fun h=>cq (hcont9 (IntKind.i64.wrap (s2+1),IntKind.i64.wrap (s2+1),(s3++([(List.drop (s1.toNat) (List.take (s2.toNat) v0_s))]:List (List UInt8)))) (fun _=>0) h)
 refine ixs ?_;intro x18
 refine br ?_ ?_
 refine br ?_ ?_
 intro h;cases sj h
 refine (hK8 _ _).trans ?_
 refine Eq.trans ?_ (Eq.symm (show _=some _ from hr10))
 conv=>lhs;whnf
 exact rq
 refine cp ?_
 refine ar (ap encS (List.map encS s3) s3 ([[sA ((List.drop (s1.toNat) (List.take (s2.toNat) v0_s)))]]) ([(List.drop (s1.toNat) (List.take (s2.toNat) v0_s))]:List (List UInt8))) ?_
 exact fun h=>cq (hcont9 (IntKind.i64.wrap (s2+1),IntKind.i64.wrap (s2+1),(s3++([(List.drop (s1.toNat) (List.take (s2.toNat) v0_s))]:List (List UInt8)))) (fun _=>0) h)
 exact fun h=>cq (hcont9 (s1,IntKind.i64.wrap (s2+1),s3) (fun _=>0) h)
 intro h;cases sj h
 exact kq (hr10 (fun _=>0))
 refine lrc ?_ ?_
 intro v e;subst e;cases sj h;rfl
 intro x25 a24 e;subst e
 dsimp only at h
 conv=>lhs;whnf
 revert h
 intro h;cases sj h
 try simp only [ls]
 exact fq (y:=some (AV.tup [AV.sl 1 (List.take (List.length x25) (List.map encS x25)),bA true],[]))

theorem ok_report_outcomes {n:Nat} ⦃r:(List (List UInt8))⦄:m_report_outcomes n=some r→CN n 21 [] []=some (AV.sl 1 (List.map encS r),[]):=by
 intro h;rcases n with _|n;cases h
 rw [m_report_outcomes] at h
 refine callN_eq' Try.func21 (by rfl) rfl rfl (Nat.le_of_ble_eq_true rfl) ?_
 intro call hc;conv=>lhs;whnf
 revert h
 exact rz

theorem ok_report_outcome {n:Nat} ⦃v0_words:(List (List UInt8))⦄ ⦃r:(Int×Bool)⦄:m_report_outcome n v0_words=some r→CN n 37 [AV.sl 1 (List.map encS v0_words)] []=some (AV.tup [iA r.1,bA r.2],[]):=by
 intro h;rcases n with _|n;cases h
 rw [m_report_outcome] at h
 refine callN_eq' Try.func37 (by rfl) rfl rfl (Nat.le_of_ble_eq_true rfl) ?_
 intro call hc;conv=>lhs;whnf
 revert h
 refine ca hc (fun _ h=>ok_report_outcomes h) ?_;intro y1
 intro h;refine bind_some2 h ?_;clear h;intro o11 ho11 h
 refine lq (σ:=Int) (τ:=Unit) (ν:=(Int×Bool)) 0 (fun s3 a5=>stOf 29 [(0,AV.sl 1 (List.map encS v0_words)),(6,AV.sl 1 (List.map encS y1)),(7,iA (((y1.length:Nat):Int))),(8,iA s3)]) (fun s3 a5=>[]) (fun _ a18=>stOf 29 []) (fun _ a18=>[]) (fun v=>(AV.tup [iA v.1,bA v.2],[])) (fun k s=>report_outcome_L0 n v0_words y1 k s) (fun s=>rfl) o11 n 0 (fun _=>0) ho11 ?_ ?_
 intro k4 s3 a5 K6 cont7 hK8 hcont9 h hr10
 replace h:report_outcome_L0 n v0_words y1 (k4+1) s3=some o11:=h
 rw [report_outcome_L0] at h
 conv=>lhs;whnf
 revert h
 refine br ?_ ?_
 refine ix ?_;intro x13
 refine br ?_ ?_
 refine br ?_ ?_
 refine ix ?_;intro x16
 refine br ?_ ?_
 intro h;cases sj h
 refine (hK8 _ _).trans ?_
 refine Eq.trans ?_ (Eq.symm (show _=some _ from hr10))
 conv=>lhs;whnf
 exact rq
 exact fun h=>cq (hcont9 (IntKind.i64.wrap (s3+1)) (fun _=>0) h)
 exact fun h=>cq (hcont9 (IntKind.i64.wrap (s3+1)) (fun _=>0) h)
 exact fun h=>cq (hcont9 (IntKind.i64.wrap (s3+1)) (fun _=>0) h)
 intro h;cases sj h
 exact kq (hr10 (fun _=>0))
 refine lrc ?_ ?_
 intro v e;subst e;cases sj h;rfl
 intro t a18 e;subst e
 dsimp only at h
 conv=>lhs;whnf
 revert h
 exact rz

theorem ok_report_reader_path {n:Nat} ⦃v1_names:(List (List UInt8))⦄ ⦃r_u_Mod:Int⦄ ⦃r_u_Init:(List Int)⦄ ⦃r_u_Regs:(List Int)⦄ ⦃r_u_Code:(List (List InstrS))⦄ ⦃r_model:Int⦄ ⦃r_v_Outcome:Int⦄ ⦃r_v_Prefix:(List Int)⦄ ⦃r_v_Cycle:(List Int)⦄ ⦃r_v_Results:(List S_api_Result)⦄ ⦃r_v_States:Int⦄ ⦃r_v_Edges:Int⦄ ⦃r:((List Int)×Bool)⦄:m_report_reader_path n v1_names r_u_Mod r_u_Init r_u_Regs r_u_Code r_model r_v_Outcome r_v_Prefix r_v_Cycle r_v_Results r_v_States r_v_Edges=some r→CN n 39 [AV.ptr 0 0,AV.sl 1 (List.map encS v1_names)] [Ob.var 63 [iA r_u_Mod,AV.sl 1 (List.map encI r_u_Init),AV.sl 1 (List.map encI r_u_Regs),AV.sl 1 (List.map encThr r_u_Code),iA r_model,iA r_v_Outcome,AV.sl 1 (List.map encI r_v_Prefix),AV.sl 1 (List.map encI r_v_Cycle),AV.row 1 (List.length r_v_Results),iA r_v_States,iA r_v_Edges],Ob.row 41 3 (List.map c_api_Result r_v_Results)]=some (AV.tup [AV.sl 1 (List.map encI r.1),bA r.2],[Ob.var 63 [iA r_u_Mod,AV.sl 1 (List.map encI r_u_Init),AV.sl 1 (List.map encI r_u_Regs),AV.sl 1 (List.map encThr r_u_Code),iA r_model,iA r_v_Outcome,AV.sl 1 (List.map encI r_v_Prefix),AV.sl 1 (List.map encI r_v_Cycle),AV.row 1 (List.length r_v_Results),iA r_v_States,iA r_v_Edges],Ob.row 41 3 (List.map c_api_Result r_v_Results)]):=by
 intro h;rcases n with _|n;cases h
 rw [m_report_reader_path] at h
 refine callN_eq' Try.func39 (by rfl) rfl rfl (Nat.le_of_ble_eq_true rfl) ?_
 intro call hc;conv=>lhs;whnf
 revert h
 intro h;refine bind_some2 h ?_;clear h;intro o10 ho10 h
 refine lq (σ:=(Int×(List Int))) (τ:=(List Int)) (ν:=((List Int)×Bool)) 0 (fun (s1,s2) a4=>stOf 34 [(0,AV.ptr 0 0),(6,AV.row 2 (List.length s2)),(10,AV.sl 1 (List.map encS v1_names)),(11,iA (((v1_names.length:Nat):Int))),(12,iA s1)]) (fun (s1,s2) a4=>[Ob.var 63 [iA r_u_Mod,AV.sl 1 (List.map encI r_u_Init),AV.sl 1 (List.map encI r_u_Regs),AV.sl 1 (List.map encThr r_u_Code),iA r_model,iA r_v_Outcome,AV.sl 1 (List.map encI r_v_Prefix),AV.sl 1 (List.map encI r_v_Cycle),AV.row 1 (List.length r_v_Results),iA r_v_States,iA r_v_Edges],Ob.row 41 3 (List.map c_api_Result r_v_Results),Ob.row 3 1 (List.map encI s2)]) (fun x19 a18=>stOf 34 [(6,AV.row 2 (List.length x19))]) (fun x19 a18=>[Ob.var 63 [iA r_u_Mod,AV.sl 1 (List.map encI r_u_Init),AV.sl 1 (List.map encI r_u_Regs),AV.sl 1 (List.map encThr r_u_Code),iA r_model,iA r_v_Outcome,AV.sl 1 (List.map encI r_v_Prefix),AV.sl 1 (List.map encI r_v_Cycle),AV.row 1 (List.length r_v_Results),iA r_v_States,iA r_v_Edges],Ob.row 41 3 (List.map c_api_Result r_v_Results),Ob.row 3 1 (List.map encI x19)]) (fun v=>(AV.tup [AV.sl 1 (List.map encI v.1),bA v.2],[Ob.var 63 [iA r_u_Mod,AV.sl 1 (List.map encI r_u_Init),AV.sl 1 (List.map encI r_u_Regs),AV.sl 1 (List.map encThr r_u_Code),iA r_model,iA r_v_Outcome,AV.sl 1 (List.map encI r_v_Prefix),AV.sl 1 (List.map encI r_v_Cycle),AV.row 1 (List.length r_v_Results),iA r_v_States,iA r_v_Edges],Ob.row 41 3 (List.map c_api_Result r_v_Results)])) (fun k s=>report_reader_path_L0 n v1_names r_u_Mod r_u_Init r_u_Regs r_u_Code r_model k s.1 s.2) (fun s=>rfl) o10 n (0,([]:List Int)) (fun _=>0) ho10 ?_ ?_
 intro k3 ss a4 K5 cont6 hK7 hcont8 h hr9
 obtain ⟨s1,s2⟩:=ss
 replace h:report_reader_path_L0 n v1_names r_u_Mod r_u_Init r_u_Regs r_u_Code r_model (k3+1) s1 s2=some o10:=h
 rw [report_reader_path_L0] at h
 conv=>lhs;whnf
 revert h
 refine br ?_ ?_
 refine ix ?_;intro x12
 refine ca hc (fun y13 h=>(show CN n 46 [AV.agg [iA r_u_Mod,AV.sl 1 (List.map encI r_u_Init),AV.sl 1 (List.map encI r_u_Regs),AV.sl 1 (List.map encThr r_u_Code)],iA r_model,sA x12] []=some (iA y13,[]) from ok_machine_Number (r:=y13) h)) ?_;intro y13
 refine br ?_ ?_
 intro h;cases sj h
 refine (hK7 _ _).trans ?_
 refine Eq.trans ?_ (Eq.symm (show _=some _ from hr9))
 conv=>lhs;whnf
 try simp only [ls]
 exact fq (y:=some (AV.tup [AV.sl 1 [],bA false],[Ob.var 63 [iA r_u_Mod,AV.sl 1 (List.map encI r_u_Init),AV.sl 1 (List.map encI r_u_Regs),AV.sl 1 (List.map encThr r_u_Code),iA r_model,iA r_v_Outcome,AV.sl 1 (List.map encI r_v_Prefix),AV.sl 1 (List.map encI r_v_Cycle),AV.row 1 (List.length r_v_Results),iA r_v_States,iA r_v_Edges],Ob.row 41 3 (List.map c_api_Result r_v_Results)]))
 refine ar (ap encI (List.map encI s2) s2 ([[iA y13]]) ([y13]:List Int)) ?_
 exact fun h=>cq (hcont8 (IntKind.i64.wrap (s1+1),(s2++([y13]:List Int))) (fun _=>0) h)
 intro h;cases sj h
 exact kq (hr9 (fun _=>0))
 refine lrc ?_ ?_
 intro v e;subst e;cases sj h;rfl
 intro x19 a18 e;subst e
 dsimp only at h
 conv=>lhs;whnf
 revert h
 intro h;cases sj h
 try simp only [ls]
 exact fq (y:=some (AV.tup [AV.sl 1 (List.take (List.length x19) (List.map encI x19)),bA true],[Ob.var 63 [iA r_u_Mod,AV.sl 1 (List.map encI r_u_Init),AV.sl 1 (List.map encI r_u_Regs),AV.sl 1 (List.map encThr r_u_Code),iA r_model,iA r_v_Outcome,AV.sl 1 (List.map encI r_v_Prefix),AV.sl 1 (List.map encI r_v_Cycle),AV.row 1 (List.length r_v_Results),iA r_v_States,iA r_v_Edges],Ob.row 41 3 (List.map c_api_Result r_v_Results)]))

theorem ok_report_reader_result {n:Nat} ⦃v1_words:(List (List UInt8))⦄ ⦃r_u_Mod:Int⦄ ⦃r_u_Init:(List Int)⦄ ⦃r_u_Regs:(List Int)⦄ ⦃r_u_Code:(List (List InstrS))⦄ ⦃r_model:Int⦄ ⦃r_v_Outcome:Int⦄ ⦃r_v_Prefix:(List Int)⦄ ⦃r_v_Cycle:(List Int)⦄ ⦃r_v_Results:(List S_api_Result)⦄ ⦃r_v_States:Int⦄ ⦃r_v_Edges:Int⦄ ⦃r:(Bool×(List S_api_Result))⦄:m_report_reader_result n v1_words r_u_Mod r_u_Init r_u_Regs r_u_Code r_model r_v_Outcome r_v_Prefix r_v_Cycle r_v_Results r_v_States r_v_Edges=some r→CN n 40 [AV.ptr 0 0,AV.sl 1 (List.map encS v1_words)] [Ob.var 63 [iA r_u_Mod,AV.sl 1 (List.map encI r_u_Init),AV.sl 1 (List.map encI r_u_Regs),AV.sl 1 (List.map encThr r_u_Code),iA r_model,iA r_v_Outcome,AV.sl 1 (List.map encI r_v_Prefix),AV.sl 1 (List.map encI r_v_Cycle),AV.row 1 (List.length r_v_Results),iA r_v_States,iA r_v_Edges],Ob.row 41 3 (List.map c_api_Result r_v_Results)]=some (bA r.1,[Ob.var 63 [iA r_u_Mod,AV.sl 1 (List.map encI r_u_Init),AV.sl 1 (List.map encI r_u_Regs),AV.sl 1 (List.map encThr r_u_Code),iA r_model,iA r_v_Outcome,AV.sl 1 (List.map encI r_v_Prefix),AV.sl 1 (List.map encI r_v_Cycle),AV.row 1 (List.length r.2),iA r_v_States,iA r_v_Edges],Ob.row 41 3 (List.map c_api_Result r.2)]):=by
 intro h;rcases n with _|n;cases h
 rw [m_report_reader_result] at h
 refine callN_eq' Try.func40 (by rfl) rfl rfl (Nat.le_of_ble_eq_true rfl) ?_
 intro call hc;conv=>lhs;whnf
 revert h
 refine br ?_ ?_
 intro h;cases sj h
 try simp only [ls]
 exact fq (y:=some (bA false,[Ob.var 63 [iA r_u_Mod,AV.sl 1 (List.map encI r_u_Init),AV.sl 1 (List.map encI r_u_Regs),AV.sl 1 (List.map encThr r_u_Code),iA r_model,iA r_v_Outcome,AV.sl 1 (List.map encI r_v_Prefix),AV.sl 1 (List.map encI r_v_Cycle),AV.row 1 (List.length r_v_Results),iA r_v_States,iA r_v_Edges],Ob.row 41 3 (List.map c_api_Result r_v_Results)]))
 refine ix ?_;intro x2
 refine br ?_ ?_
 refine br ?_ ?_
 intro h;cases sj h
 try simp only [ls]
 exact fq (y:=some (bA false,[Ob.var 63 [iA r_u_Mod,AV.sl 1 (List.map encI r_u_Init),AV.sl 1 (List.map encI r_u_Regs),AV.sl 1 (List.map encThr r_u_Code),iA r_model,iA r_v_Outcome,AV.sl 1 (List.map encI r_v_Prefix),AV.sl 1 (List.map encI r_v_Cycle),AV.row 1 (List.length r_v_Results),iA r_v_States,iA r_v_Edges],Ob.row 41 3 (List.map c_api_Result r_v_Results)]))
 refine ix ?_;intro x5
 refine br ?_ ?_
 refine cs (slb encS v1_words ((3:Int).toNat)) ?_
 refine cr hc (fun _ h=>ok_report_reader_path h) ?_;intro y9
 refine br ?_ ?_
 refine ix ?_;intro x12
 refine ar (ap c_api_Result (List.map c_api_Result r_v_Results) r_v_Results ([[bA ((x5==([104,111,108,100,115]:List UInt8))),bA true,AV.sl 1 (List.map encI y9.1)]]) ([(⟨(x5==([104,111,108,100,115]:List UInt8)),true,y9.1⟩:S_api_Result)]:List S_api_Result)) ?_
 intro h;cases sj h
 try simp only [ls]
 exact fq (y:=some (bA ((x12==([98,121]:List UInt8))),[Ob.var 63 [iA r_u_Mod,AV.sl 1 (List.map encI r_u_Init),AV.sl 1 (List.map encI r_u_Regs),AV.sl 1 (List.map encThr r_u_Code),iA r_model,iA r_v_Outcome,AV.sl 1 (List.map encI r_v_Prefix),AV.sl 1 (List.map encI r_v_Cycle),AV.row 1 (List.length ((r_v_Results++([(⟨(x5==([104,111,108,100,115]:List UInt8)),true,y9.1⟩:S_api_Result)]:List S_api_Result)))),iA r_v_States,iA r_v_Edges],Ob.row 41 3 (List.map c_api_Result (r_v_Results++([(⟨(x5==([104,111,108,100,115]:List UInt8)),true,y9.1⟩:S_api_Result)]:List S_api_Result)))]))
 refine ar (ap c_api_Result (List.map c_api_Result r_v_Results) r_v_Results ([[bA ((x5==([104,111,108,100,115]:List UInt8))),bA true,AV.sl 1 (List.map encI y9.1)]]) ([(⟨(x5==([104,111,108,100,115]:List UInt8)),true,y9.1⟩:S_api_Result)]:List S_api_Result)) ?_
 intro h;cases sj h
 try simp only [ls]
 exact fq (y:=some (bA false,[Ob.var 63 [iA r_u_Mod,AV.sl 1 (List.map encI r_u_Init),AV.sl 1 (List.map encI r_u_Regs),AV.sl 1 (List.map encThr r_u_Code),iA r_model,iA r_v_Outcome,AV.sl 1 (List.map encI r_v_Prefix),AV.sl 1 (List.map encI r_v_Cycle),AV.row 1 (List.length ((r_v_Results++([(⟨(x5==([104,111,108,100,115]:List UInt8)),true,y9.1⟩:S_api_Result)]:List S_api_Result)))),iA r_v_States,iA r_v_Edges],Ob.row 41 3 (List.map c_api_Result (r_v_Results++([(⟨(x5==([104,111,108,100,115]:List UInt8)),true,y9.1⟩:S_api_Result)]:List S_api_Result)))]))
 refine ar (ap c_api_Result (List.map c_api_Result r_v_Results) r_v_Results ([[bA ((x5==([104,111,108,100,115]:List UInt8))),bA false,AV.sl 1 []]]) ([(⟨(x5==([104,111,108,100,115]:List UInt8)),false,([]:List Int)⟩:S_api_Result)]:List S_api_Result)) ?_
 intro h;cases sj h
 try simp only [ls]
 exact fq (y:=some (bA true,[Ob.var 63 [iA r_u_Mod,AV.sl 1 (List.map encI r_u_Init),AV.sl 1 (List.map encI r_u_Regs),AV.sl 1 (List.map encThr r_u_Code),iA r_model,iA r_v_Outcome,AV.sl 1 (List.map encI r_v_Prefix),AV.sl 1 (List.map encI r_v_Cycle),AV.row 1 (List.length ((r_v_Results++([(⟨(x5==([104,111,108,100,115]:List UInt8)),false,([]:List Int)⟩:S_api_Result)]:List S_api_Result)))),iA r_v_States,iA r_v_Edges],Ob.row 41 3 (List.map c_api_Result (r_v_Results++([(⟨(x5==([104,111,108,100,115]:List UInt8)),false,([]:List Int)⟩:S_api_Result)]:List S_api_Result)))]))
 refine ix ?_;intro x19
 refine br ?_ ?_
 refine br ?_ ?_
 intro h;cases sj h
 try simp only [ls]
 exact fq (y:=some (bA false,[Ob.var 63 [iA r_u_Mod,AV.sl 1 (List.map encI r_u_Init),AV.sl 1 (List.map encI r_u_Regs),AV.sl 1 (List.map encThr r_u_Code),iA r_model,iA r_v_Outcome,AV.sl 1 (List.map encI r_v_Prefix),AV.sl 1 (List.map encI r_v_Cycle),AV.row 1 (List.length r_v_Results),iA r_v_States,iA r_v_Edges],Ob.row 41 3 (List.map c_api_Result r_v_Results)]))
 refine ix ?_;intro x22
 refine br ?_ ?_
 refine cs (slb encS v1_words ((3:Int).toNat)) ?_
 refine cr hc (fun _ h=>ok_report_reader_path h) ?_;intro y26
 refine br ?_ ?_
 refine ix ?_;intro x29
 refine ar (ap c_api_Result (List.map c_api_Result r_v_Results) r_v_Results ([[bA ((x22==([104,111,108,100,115]:List UInt8))),bA true,AV.sl 1 (List.map encI y26.1)]]) ([(⟨(x22==([104,111,108,100,115]:List UInt8)),true,y26.1⟩:S_api_Result)]:List S_api_Result)) ?_
 intro h;cases sj h
 try simp only [ls]
 exact fq (y:=some (bA ((x29==([98,121]:List UInt8))),[Ob.var 63 [iA r_u_Mod,AV.sl 1 (List.map encI r_u_Init),AV.sl 1 (List.map encI r_u_Regs),AV.sl 1 (List.map encThr r_u_Code),iA r_model,iA r_v_Outcome,AV.sl 1 (List.map encI r_v_Prefix),AV.sl 1 (List.map encI r_v_Cycle),AV.row 1 (List.length ((r_v_Results++([(⟨(x22==([104,111,108,100,115]:List UInt8)),true,y26.1⟩:S_api_Result)]:List S_api_Result)))),iA r_v_States,iA r_v_Edges],Ob.row 41 3 (List.map c_api_Result (r_v_Results++([(⟨(x22==([104,111,108,100,115]:List UInt8)),true,y26.1⟩:S_api_Result)]:List S_api_Result)))]))
 refine ar (ap c_api_Result (List.map c_api_Result r_v_Results) r_v_Results ([[bA ((x22==([104,111,108,100,115]:List UInt8))),bA true,AV.sl 1 (List.map encI y26.1)]]) ([(⟨(x22==([104,111,108,100,115]:List UInt8)),true,y26.1⟩:S_api_Result)]:List S_api_Result)) ?_
 intro h;cases sj h
 try simp only [ls]
 exact fq (y:=some (bA false,[Ob.var 63 [iA r_u_Mod,AV.sl 1 (List.map encI r_u_Init),AV.sl 1 (List.map encI r_u_Regs),AV.sl 1 (List.map encThr r_u_Code),iA r_model,iA r_v_Outcome,AV.sl 1 (List.map encI r_v_Prefix),AV.sl 1 (List.map encI r_v_Cycle),AV.row 1 (List.length ((r_v_Results++([(⟨(x22==([104,111,108,100,115]:List UInt8)),true,y26.1⟩:S_api_Result)]:List S_api_Result)))),iA r_v_States,iA r_v_Edges],Ob.row 41 3 (List.map c_api_Result (r_v_Results++([(⟨(x22==([104,111,108,100,115]:List UInt8)),true,y26.1⟩:S_api_Result)]:List S_api_Result)))]))
 refine ar (ap c_api_Result (List.map c_api_Result r_v_Results) r_v_Results ([[bA ((x22==([104,111,108,100,115]:List UInt8))),bA false,AV.sl 1 []]]) ([(⟨(x22==([104,111,108,100,115]:List UInt8)),false,([]:List Int)⟩:S_api_Result)]:List S_api_Result)) ?_
 intro h;cases sj h
 try simp only [ls]
 exact fq (y:=some (bA true,[Ob.var 63 [iA r_u_Mod,AV.sl 1 (List.map encI r_u_Init),AV.sl 1 (List.map encI r_u_Regs),AV.sl 1 (List.map encThr r_u_Code),iA r_model,iA r_v_Outcome,AV.sl 1 (List.map encI r_v_Prefix),AV.sl 1 (List.map encI r_v_Cycle),AV.row 1 (List.length ((r_v_Results++([(⟨(x22==([104,111,108,100,115]:List UInt8)),false,([]:List Int)⟩:S_api_Result)]:List S_api_Result)))),iA r_v_States,iA r_v_Edges],Ob.row 41 3 (List.map c_api_Result (r_v_Results++([(⟨(x22==([104,111,108,100,115]:List UInt8)),false,([]:List Int)⟩:S_api_Result)]:List S_api_Result)))]))
 intro h;cases sj h
 try simp only [ls]
 exact fq (y:=some (bA false,[Ob.var 63 [iA r_u_Mod,AV.sl 1 (List.map encI r_u_Init),AV.sl 1 (List.map encI r_u_Regs),AV.sl 1 (List.map encThr r_u_Code),iA r_model,iA r_v_Outcome,AV.sl 1 (List.map encI r_v_Prefix),AV.sl 1 (List.map encI r_v_Cycle),AV.row 1 (List.length r_v_Results),iA r_v_States,iA r_v_Edges],Ob.row 41 3 (List.map c_api_Result r_v_Results)]))

theorem ok_report_reader_line {n:Nat} ⦃v1_s:(List UInt8)⦄ ⦃v2_n:Int⦄ ⦃r_u_Mod:Int⦄ ⦃r_u_Init:(List Int)⦄ ⦃r_u_Regs:(List Int)⦄ ⦃r_u_Code:(List (List InstrS))⦄ ⦃r_model:Int⦄ ⦃r_v_Outcome:Int⦄ ⦃r_v_Prefix:(List Int)⦄ ⦃r_v_Cycle:(List Int)⦄ ⦃r_v_Results:(List S_api_Result)⦄ ⦃r_v_States:Int⦄ ⦃r_v_Edges:Int⦄ ⦃r:(Bool×Int×(List Int)×(List Int)×(List S_api_Result)×Int×Int)⦄:m_report_reader_line n v1_s v2_n r_u_Mod r_u_Init r_u_Regs r_u_Code r_model r_v_Outcome r_v_Prefix r_v_Cycle r_v_Results r_v_States r_v_Edges=some r→CN n 27 [AV.ptr 0 0,sA v1_s,iA v2_n] [Ob.var 63 [iA r_u_Mod,AV.sl 1 (List.map encI r_u_Init),AV.sl 1 (List.map encI r_u_Regs),AV.sl 1 (List.map encThr r_u_Code),iA r_model,iA r_v_Outcome,AV.sl 1 (List.map encI r_v_Prefix),AV.sl 1 (List.map encI r_v_Cycle),AV.row 1 (List.length r_v_Results),iA r_v_States,iA r_v_Edges],Ob.row 41 3 (List.map c_api_Result r_v_Results)]=some (bA r.1,[Ob.var 63 [iA r_u_Mod,AV.sl 1 (List.map encI r_u_Init),AV.sl 1 (List.map encI r_u_Regs),AV.sl 1 (List.map encThr r_u_Code),iA r_model,iA r.2.1,AV.sl 1 (List.map encI r.2.2.1),AV.sl 1 (List.map encI r.2.2.2.1),AV.row 1 (List.length r.2.2.2.2.1),iA r.2.2.2.2.2.1,iA r.2.2.2.2.2.2],Ob.row 41 3 (List.map c_api_Result r.2.2.2.2.1)]):=by
 intro h;rcases n with _|n;cases h
 rw [m_report_reader_line] at h
 refine callN_eq' Try.func27 (by rfl) rfl rfl (Nat.le_of_ble_eq_true rfl) ?_
 intro call hc;conv=>lhs;whnf
 revert h
 refine ca hc (fun _ h=>ok_report_cut h) ?_;intro y1
 refine br ?_ ?_
 refine ix ?_;intro x4
 intro h
 refine bind_some2 h ?_;clear h;intro x5 hx5 h
 refine bif_pos (by first|exact idx_in hx5|(have q:=idx_in hx5;exact q)) ?_
 simp only [(show nth? ([[sA (([111,117,116,99,111,109,101]:List UInt8))],[sA (([115,116,97,116,101,115]:List UInt8))],[sA (([101,100,103,101,115]:List UInt8))],[sA (([112,114,101,102,105,120]:List UInt8))],[sA (([99,121,99,108,101]:List UInt8))],[sA (([99,108,97,105,109]:List UInt8))]]:List (List AV)) ((if 5<v2_n then 5 else v2_n)).toNat=some (encS x5) from idx_nth (f:=encS) hx5),ls]
 conv=>lhs;whnf
 revert h
 refine br ?_ ?_
 refine ix ?_;intro x7
 refine br ?_ ?_
 refine ca hc (fun _ h=>ok_report_outcome h) ?_;intro y9
 intro h;cases sj h
 try simp only [ls]
 exact fq (y:=some (bA y9.2,[Ob.var 63 [iA r_u_Mod,AV.sl 1 (List.map encI r_u_Init),AV.sl 1 (List.map encI r_u_Regs),AV.sl 1 (List.map encThr r_u_Code),iA r_model,iA y9.1,AV.sl 1 (List.map encI r_v_Prefix),AV.sl 1 (List.map encI r_v_Cycle),AV.row 1 (List.length r_v_Results),iA r_v_States,iA r_v_Edges],Ob.row 41 3 (List.map c_api_Result r_v_Results)]))
 refine br ?_ ?_
 refine ca hc (fun _ h=>ok_report_number h) ?_;intro y12
 intro h;cases sj h
 try simp only [ls]
 exact fq (y:=some (bA y12.2,[Ob.var 63 [iA r_u_Mod,AV.sl 1 (List.map encI r_u_Init),AV.sl 1 (List.map encI r_u_Regs),AV.sl 1 (List.map encThr r_u_Code),iA r_model,iA r_v_Outcome,AV.sl 1 (List.map encI r_v_Prefix),AV.sl 1 (List.map encI r_v_Cycle),AV.row 1 (List.length r_v_Results),iA y12.1,iA r_v_Edges],Ob.row 41 3 (List.map c_api_Result r_v_Results)]))
 refine br ?_ ?_
 refine ca hc (fun _ h=>ok_report_number h) ?_;intro y15
 intro h;cases sj h
 try simp only [ls]
 exact fq (y:=some (bA y15.2,[Ob.var 63 [iA r_u_Mod,AV.sl 1 (List.map encI r_u_Init),AV.sl 1 (List.map encI r_u_Regs),AV.sl 1 (List.map encThr r_u_Code),iA r_model,iA r_v_Outcome,AV.sl 1 (List.map encI r_v_Prefix),AV.sl 1 (List.map encI r_v_Cycle),AV.row 1 (List.length r_v_Results),iA r_v_States,iA y15.1],Ob.row 41 3 (List.map c_api_Result r_v_Results)]))
 refine br ?_ ?_
 refine cs (slb encS y1.1 ((1:Int).toNat)) ?_
 refine cr hc (fun _ h=>ok_report_reader_path h) ?_;intro y20
 intro h;cases sj h
 try simp only [ls]
 exact fq (y:=some (bA y20.2,[Ob.var 63 [iA r_u_Mod,AV.sl 1 (List.map encI r_u_Init),AV.sl 1 (List.map encI r_u_Regs),AV.sl 1 (List.map encThr r_u_Code),iA r_model,iA r_v_Outcome,AV.sl 1 (List.map encI y20.1),AV.sl 1 (List.map encI r_v_Cycle),AV.row 1 (List.length r_v_Results),iA r_v_States,iA r_v_Edges],Ob.row 41 3 (List.map c_api_Result r_v_Results)]))
 refine br ?_ ?_
 refine cs (slb encS y1.1 ((1:Int).toNat)) ?_
 refine cr hc (fun _ h=>ok_report_reader_path h) ?_;intro y25
 intro h;cases sj h
 try simp only [ls]
 exact fq (y:=some (bA y25.2,[Ob.var 63 [iA r_u_Mod,AV.sl 1 (List.map encI r_u_Init),AV.sl 1 (List.map encI r_u_Regs),AV.sl 1 (List.map encThr r_u_Code),iA r_model,iA r_v_Outcome,AV.sl 1 (List.map encI r_v_Prefix),AV.sl 1 (List.map encI y25.1),AV.row 1 (List.length r_v_Results),iA r_v_States,iA r_v_Edges],Ob.row 41 3 (List.map c_api_Result r_v_Results)]))
 refine br ?_ ?_
 refine cr hc (fun _ h=>ok_report_reader_result h) ?_;intro y28
 intro h;cases sj h
 try simp only [ls]
 exact fq (y:=some (bA y28.1,[Ob.var 63 [iA r_u_Mod,AV.sl 1 (List.map encI r_u_Init),AV.sl 1 (List.map encI r_u_Regs),AV.sl 1 (List.map encThr r_u_Code),iA r_model,iA r_v_Outcome,AV.sl 1 (List.map encI r_v_Prefix),AV.sl 1 (List.map encI r_v_Cycle),AV.row 1 (List.length y28.2),iA r_v_States,iA r_v_Edges],Ob.row 41 3 (List.map c_api_Result y28.2)]))
 intro h;cases sj h
 try simp only [ls]
 exact fq (y:=some (bA true,[Ob.var 63 [iA r_u_Mod,AV.sl 1 (List.map encI r_u_Init),AV.sl 1 (List.map encI r_u_Regs),AV.sl 1 (List.map encThr r_u_Code),iA r_model,iA r_v_Outcome,AV.sl 1 (List.map encI r_v_Prefix),AV.sl 1 (List.map encI r_v_Cycle),AV.row 1 (List.length r_v_Results),iA r_v_States,iA r_v_Edges],Ob.row 41 3 (List.map c_api_Result r_v_Results)]))
 intro h;cases sj h
 try simp only [ls]
 exact fq (y:=some (bA false,[Ob.var 63 [iA r_u_Mod,AV.sl 1 (List.map encI r_u_Init),AV.sl 1 (List.map encI r_u_Regs),AV.sl 1 (List.map encThr r_u_Code),iA r_model,iA r_v_Outcome,AV.sl 1 (List.map encI r_v_Prefix),AV.sl 1 (List.map encI r_v_Cycle),AV.row 1 (List.length r_v_Results),iA r_v_States,iA r_v_Edges],Ob.row 41 3 (List.map c_api_Result r_v_Results)]))
 intro h;cases sj h
 try simp only [ls]
 exact fq (y:=some (bA false,[Ob.var 63 [iA r_u_Mod,AV.sl 1 (List.map encI r_u_Init),AV.sl 1 (List.map encI r_u_Regs),AV.sl 1 (List.map encThr r_u_Code),iA r_model,iA r_v_Outcome,AV.sl 1 (List.map encI r_v_Prefix),AV.sl 1 (List.map encI r_v_Cycle),AV.row 1 (List.length r_v_Results),iA r_v_States,iA r_v_Edges],Ob.row 41 3 (List.map c_api_Result r_v_Results)]))

theorem ok_report_Parse {n:Nat} ⦃v0_u:UnitS⦄ ⦃v1_model:Int⦄ ⦃v2_s:(List UInt8)⦄ ⦃r:(S_api_Verdict×Int×Int)⦄:m_report_Parse n v0_u v1_model v2_s=some r→CN n 13 [AV.agg [iA (v0_u.mod),AV.sl 1 (List.map encI (v0_u.init)),AV.sl 1 (List.map encI (v0_u.regs)),AV.sl 1 (List.map encThr (v0_u.code))],iA v1_model,sA v2_s] []=some (AV.tup [AV.agg [iA r.1.f_Outcome,AV.sl 1 (List.map encI r.1.f_Prefix),AV.sl 1 (List.map encI r.1.f_Cycle),AV.sl 3 (List.map c_api_Result r.1.f_Results),iA r.1.f_States,iA r.1.f_Edges],iA r.2.1,iA r.2.2],[]):=by
 intro h;rcases n with _|n;cases h
 rw [m_report_Parse] at h
 refine callN_eq' Try.func13 (by rfl) rfl rfl (Nat.le_of_ble_eq_true rfl) ?_
 intro call hc;conv=>lhs;whnf
 revert h
 intro h;refine bind_some2 h ?_;clear h;intro o17 ho17 h
 refine lq (σ:=(Int×Int×Int×Int×(List Int)×(List Int)×Int×Int×(List S_api_Result))) (τ:=(Int×Int×Int×(List Int)×(List Int)×Int×Int×(List S_api_Result))) (ν:=(S_api_Verdict×Int×Int)) 0 (fun (s1,s2,s3,s4,s5,s6,s7,s8,s9) a11=>stOf 57 [(2,sA v2_s),(6,AV.ptr 1 0),(9,AV.ptr 2 0),(10,iA s1),(11,iA s2),(18,iA (((v2_s.length:Nat):Int))),(19,iA s3)]) (fun (s1,s2,s3,s4,s5,s6,s7,s8,s9) a11=>[Ob.var 25 [iA (v0_u.mod),AV.sl 1 (List.map encI (v0_u.init)),AV.sl 1 (List.map encI (v0_u.regs)),AV.sl 1 (List.map encThr (v0_u.code))],Ob.var 28 [iA (0),AV.sl 1 [],AV.sl 1 [],AV.row 3 (List.length (([]:List S_api_Result))),iA (0),iA (0)],Ob.var 63 [iA (v0_u.mod),AV.sl 1 (List.map encI (v0_u.init)),AV.sl 1 (List.map encI (v0_u.regs)),AV.sl 1 (List.map encThr (v0_u.code)),iA v1_model,iA s4,AV.sl 1 (List.map encI s5),AV.sl 1 (List.map encI s6),AV.row 4 (List.length s9),iA s7,iA s8],Ob.row 41 3 ([]),Ob.row 41 3 (List.map c_api_Result s9)]) (fun (x26,x27,x28,x29,x30,x31,x32,x33) a25=>stOf 57 [(2,sA v2_s),(6,AV.ptr 1 0),(9,AV.ptr 2 0),(10,iA x26),(11,iA x27)]) (fun (x26,x27,x28,x29,x30,x31,x32,x33) a25=>[Ob.var 25 [iA (v0_u.mod),AV.sl 1 (List.map encI (v0_u.init)),AV.sl 1 (List.map encI (v0_u.regs)),AV.sl 1 (List.map encThr (v0_u.code))],Ob.var 28 [iA (0),AV.sl 1 [],AV.sl 1 [],AV.row 3 (List.length (([]:List S_api_Result))),iA (0),iA (0)],Ob.var 63 [iA (v0_u.mod),AV.sl 1 (List.map encI (v0_u.init)),AV.sl 1 (List.map encI (v0_u.regs)),AV.sl 1 (List.map encThr (v0_u.code)),iA v1_model,iA x28,AV.sl 1 (List.map encI x29),AV.sl 1 (List.map encI x30),AV.row 4 (List.length x33),iA x31,iA x32],Ob.row 41 3 ([]),Ob.row 41 3 (List.map c_api_Result x33)]) (fun v=>(AV.tup [AV.agg [iA v.1.f_Outcome,AV.sl 1 (List.map encI v.1.f_Prefix),AV.sl 1 (List.map encI v.1.f_Cycle),AV.sl 3 (List.map c_api_Result v.1.f_Results),iA v.1.f_States,iA v.1.f_Edges],iA v.2.1,iA v.2.2],[])) (fun k s=>report_Parse_L0 n v0_u v1_model v2_s k s.1 s.2.1 s.2.2.1 s.2.2.2.1 s.2.2.2.2.1 s.2.2.2.2.2.1 s.2.2.2.2.2.2.1 s.2.2.2.2.2.2.2.1 s.2.2.2.2.2.2.2.2) (fun s=>rfl) o17 n (0,0,0,0,([]:List Int),([]:List Int),0,0,([]:List S_api_Result)) (fun _=>0) ho17 ?_ ?_
 intro k10 ss a11 K12 cont13 hK14 hcont15 h hr16
 obtain ⟨s1,s2,s3,s4,s5,s6,s7,s8,s9⟩:=ss
 replace h:report_Parse_L0 n v0_u v1_model v2_s (k10+1) s1 s2 s3 s4 s5 s6 s7 s8 s9=some o17:=h
 rw [report_Parse_L0] at h
 conv=>lhs;whnf
 revert h
 refine br ?_ ?_
 refine ixs ?_;intro x19
 refine br ?_ ?_
 exact fun h=>cq (hcont15 (s1,s2,IntKind.i64.wrap (s3+1),s4,s5,s6,s7,s8,s9) (fun _=>0) h)
 refine cp ?_
 refine cr hc (fun _ h=>ok_report_reader_line h) ?_;intro y22
 refine br ?_ ?_
 exact fun h=>cq (hcont15 (IntKind.i64.wrap (s1+1),IntKind.i64.wrap (s3+1),IntKind.i64.wrap (s3+1),y22.2.1,y22.2.2.1,y22.2.2.2.1,y22.2.2.2.2.2.1,y22.2.2.2.2.2.2,y22.2.2.2.2.1) (fun _=>0) h)
 intro h;cases sj h
 refine (hK14 _ _).trans ?_
 refine Eq.trans ?_ (Eq.symm (show _=some _ from hr16))
 conv=>lhs;whnf
 exact rq
 intro h;cases sj h
 exact kq (hr16 (fun _=>0))
 refine lrc ?_ ?_
 intro v e;subst e;cases sj h;rfl
 intro t a25 e;subst e
 obtain ⟨x26,x27,x28,x29,x30,x31,x32,x33⟩:=t
 dsimp only at h
 conv=>lhs;whnf
 revert h
 refine br ?_ ?_
 exact rz
 refine br ?_ ?_
 exact rz
 intro h;cases sj h
 try simp only [ls]
 exact fq (y:=some (AV.tup [AV.agg [iA x28,AV.sl 1 (List.map encI x29),AV.sl 1 (List.map encI x30),AV.sl 3 (List.take (List.length x33) (List.map c_api_Result x33)),iA x31,iA x32],iA (0),iA (0)],[]))

theorem ok_report_named {n:Nat} ⦃v0_u:UnitS⦄ ⦃v1_model:Int⦄ ⦃v2_paths:(List (List Int))⦄ ⦃r:Bool⦄:m_report_named n v0_u v1_model v2_paths=some r→CN n 18 [AV.agg [iA (v0_u.mod),AV.sl 1 (List.map encI (v0_u.init)),AV.sl 1 (List.map encI (v0_u.regs)),AV.sl 1 (List.map encThr (v0_u.code))],iA v1_model,AV.sl 1 (List.map encRow v2_paths)] []=some (bA r,[]):=by
 intro h;rcases n with _|n;cases h
 rw [m_report_named] at h
 refine callN_eq' Try.func18 (by rfl) rfl rfl (Nat.le_of_ble_eq_true rfl) ?_
 intro call hc;conv=>lhs;whnf
 revert h
 intro h;refine bind_some2 h ?_;clear h;intro o9 ho9 h
 refine lq (σ:=Int) (τ:=Unit) (ν:=Bool) 0 (fun s1 a3=>stOf 30 [(1,iA v1_model),(3,AV.ptr 0 0),(11,AV.sl 1 (List.map encRow v2_paths)),(12,iA (((v2_paths.length:Nat):Int))),(13,iA s1)]) (fun s1 a3=>[Ob.var 25 [iA (v0_u.mod),AV.sl 1 (List.map encI (v0_u.init)),AV.sl 1 (List.map encI (v0_u.regs)),AV.sl 1 (List.map encThr (v0_u.code))]]) (fun _ a28=>stOf 30 []) (fun _ a28=>[Ob.var 25 [iA (v0_u.mod),AV.sl 1 (List.map encI (v0_u.init)),AV.sl 1 (List.map encI (v0_u.regs)),AV.sl 1 (List.map encThr (v0_u.code))]]) (fun v=>(bA v,[])) (fun k s=>report_named_L0 n v0_u v1_model v2_paths k s) (fun s=>rfl) o9 n 0 (fun _=>0) ho9 ?_ ?_
 intro k2 s1 a3 K4 cont5 hK6 hcont7 h hr8
 replace h:report_named_L0 n v0_u v1_model v2_paths (k2+1) s1=some o9:=h
 rw [report_named_L0] at h
 conv=>lhs;whnf
 revert h
 refine br ?_ ?_
 refine ix ?_;intro x11
 intro h;refine bind_some2 h ?_;clear h;intro o20 ho20 h
 refine lq (σ:=Int) (τ:=Unit) (ν:=Bool) 2 (fun s12 a14=>stOf 30 [(1,iA v1_model),(3,AV.ptr 0 0),(11,AV.sl 1 (List.map encRow v2_paths)),(12,iA (((v2_paths.length:Nat):Int))),(13,iA s1),(17,AV.sl 1 (List.map encI x11)),(18,iA (((x11.length:Nat):Int))),(19,iA s12)]) (fun s12 a14=>[Ob.var 25 [iA (v0_u.mod),AV.sl 1 (List.map encI (v0_u.init)),AV.sl 1 (List.map encI (v0_u.regs)),AV.sl 1 (List.map encThr (v0_u.code))]]) (fun _ a26=>stOf 30 [(1,iA v1_model),(3,AV.ptr 0 0),(11,AV.sl 1 (List.map encRow v2_paths)),(12,iA (((v2_paths.length:Nat):Int))),(13,iA s1)]) (fun _ a26=>[Ob.var 25 [iA (v0_u.mod),AV.sl 1 (List.map encI (v0_u.init)),AV.sl 1 (List.map encI (v0_u.regs)),AV.sl 1 (List.map encThr (v0_u.code))]]) (fun v=>(bA v,[])) (fun k s=>report_named_L1 n v0_u v1_model x11 k s) (fun s=>rfl) o20 n 0 (fun _=>0) ho20 ?_ ?_
 intro k13 s12 a14 K15 cont16 hK17 hcont18 h hr19
 replace h:report_named_L1 n v0_u v1_model x11 (k13+1) s12=some o20:=h
 rw [report_named_L1] at h
 conv=>lhs;whnf
 revert h
 refine br ?_ ?_
 refine ix ?_;intro x22
 refine ca hc (fun _ h=>ok_machine_Name h) ?_;intro y23
 refine br ?_ ?_
 intro h;cases sj h
 refine (hK17 _ _).trans ?_
 conv=>lhs;whnf
 refine (hK6 _ _).trans ?_
 refine Eq.trans ?_ (Eq.symm (show _=some _ from hr19))
 conv=>lhs;whnf
 exact rq
 exact fun h=>cq (hcont18 (IntKind.i64.wrap (s12+1)) (fun _=>0) h)
 intro h;cases sj h
 exact kq (hr19 (fun _=>0))
 refine lrc ?_ ?_
 intro v e;subst e;cases sj h;exact hr8
 intro t a26 e;subst e
 dsimp only at h
 conv=>lhs;whnf
 revert h
 exact fun h=>cq (hcont7 (IntKind.i64.wrap (s1+1)) (fun _=>0) h)
 intro h;cases sj h
 exact kq (hr8 (fun _=>0))
 refine lrc ?_ ?_
 intro v e;subst e;cases sj h;rfl
 intro t a28 e;subst e
 dsimp only at h
 conv=>lhs;whnf
 revert h
 exact rz

theorem ok_report_within {n:Nat} ⦃v0_n:Int⦄ ⦃v1_low:Int⦄ ⦃v2_high:Int⦄ ⦃r:Bool⦄:m_report_within n v0_n v1_low v2_high=some r→CN n 17 [iA v0_n,iA v1_low,iA v2_high] []=some (bA r,[]):=by
 intro h;rcases n with _|n;cases h
 rw [m_report_within] at h
 refine callN_eq' Try.func17 (by rfl) rfl rfl (Nat.le_of_ble_eq_true rfl) ?_
 intro call hc;conv=>lhs;whnf
 revert h
 refine br ?_ ?_
 exact rz
 exact rz

theorem ok_report_Right {n:Nat} ⦃v0_u:UnitS⦄ ⦃v1_model:Int⦄ ⦃v2_v:S_api_Verdict⦄ ⦃r:Bool⦄:m_report_Right n v0_u v1_model v2_v=some r→CN n 8 [AV.agg [iA (v0_u.mod),AV.sl 1 (List.map encI (v0_u.init)),AV.sl 1 (List.map encI (v0_u.regs)),AV.sl 1 (List.map encThr (v0_u.code))],iA v1_model,AV.agg [iA v2_v.f_Outcome,AV.sl 1 (List.map encI v2_v.f_Prefix),AV.sl 1 (List.map encI v2_v.f_Cycle),AV.sl 3 (List.map c_api_Result v2_v.f_Results),iA v2_v.f_States,iA v2_v.f_Edges]] []=some (bA r,[]):=by
 intro h;rcases n with _|n;cases h
 rw [m_report_Right] at h
 refine callN_eq' Try.func8 (by rfl) rfl rfl (Nat.le_of_ble_eq_true rfl) ?_
 intro call hc;conv=>lhs;whnf
 revert h
 refine ca hc (fun _ h=>ok_report_within h) ?_;intro y1
 refine br ?_ ?_
 refine ca hc (fun _ h=>ok_report_within h) ?_;intro y4
 refine br ?_ ?_
 refine ca hc (fun _ h=>ok_report_within h) ?_;intro y7
 refine br ?_ ?_
 refine br ?_ ?_
 exact rz
 intro h;refine bind_some2 h ?_;clear h;intro o19 ho19 h
 refine lq (σ:=Int) (τ:=Unit) (ν:=Bool) 0 (fun s11 a13=>stOf 65 [(1,iA v1_model),(3,AV.ptr 0 0),(5,AV.ptr 1 0),(32,AV.sl 3 (List.map c_api_Result v2_v.f_Results)),(33,iA (((v2_v.f_Results.length:Nat):Int))),(34,iA s11)]) (fun s11 a13=>[Ob.var 25 [iA (v0_u.mod),AV.sl 1 (List.map encI (v0_u.init)),AV.sl 1 (List.map encI (v0_u.regs)),AV.sl 1 (List.map encThr (v0_u.code))],Ob.var 28 [iA v2_v.f_Outcome,AV.sl 1 (List.map encI v2_v.f_Prefix),AV.sl 1 (List.map encI v2_v.f_Cycle),AV.sl 3 (List.map c_api_Result v2_v.f_Results),iA v2_v.f_States,iA v2_v.f_Edges]]) (fun _ a27=>stOf 65 [(1,iA v1_model),(3,AV.ptr 0 0),(5,AV.ptr 1 0)]) (fun _ a27=>[Ob.var 25 [iA (v0_u.mod),AV.sl 1 (List.map encI (v0_u.init)),AV.sl 1 (List.map encI (v0_u.regs)),AV.sl 1 (List.map encThr (v0_u.code))],Ob.var 28 [iA v2_v.f_Outcome,AV.sl 1 (List.map encI v2_v.f_Prefix),AV.sl 1 (List.map encI v2_v.f_Cycle),AV.sl 3 (List.map c_api_Result v2_v.f_Results),iA v2_v.f_States,iA v2_v.f_Edges]]) (fun v=>(bA v,[])) (fun k s=>report_Right_L0 n v0_u v1_model v2_v k s) (fun s=>rfl) o19 n 0 (fun _=>0) ho19 ?_ ?_
 intro k12 s11 a13 K14 cont15 hK16 hcont17 h hr18
 replace h:report_Right_L0 n v0_u v1_model v2_v (k12+1) s11=some o19:=h
 rw [report_Right_L0] at h
 conv=>lhs;whnf
 revert h
 refine br ?_ ?_
 refine ix ?_;intro x21
 refine cr hc (fun y22 h=>(show CN n 18 [AV.agg [iA (v0_u.mod),AV.sl 1 (List.map encI (v0_u.init)),AV.sl 1 (List.map encI (v0_u.regs)),AV.sl 1 (List.map encThr (v0_u.code))],iA v1_model,AV.sl 1 [[AV.sl 1 (List.map encI x21.f_Path)]]] []=some (bA y22,[]) from ok_report_named (r:=y22) h)) ?_;intro y22
 refine br ?_ ?_
 refine br ?_ ?_
 exact fun h=>cq (hcont17 (IntKind.i64.wrap (s11+1)) (fun _=>0) h)
 refine br ?_ ?_
 intro h;cases sj h
 refine (hK16 _ _).trans ?_
 refine Eq.trans ?_ (Eq.symm (show _=some _ from hr18))
 conv=>lhs;whnf
 exact rq
 exact fun h=>cq (hcont17 (IntKind.i64.wrap (s11+1)) (fun _=>0) h)
 intro h;cases sj h
 refine (hK16 _ _).trans ?_
 refine Eq.trans ?_ (Eq.symm (show _=some _ from hr18))
 conv=>lhs;whnf
 exact rq
 intro h;cases sj h
 exact kq (hr18 (fun _=>0))
 refine lrc ?_ ?_
 intro v e;subst e;cases sj h;rfl
 intro t a27 e;subst e
 dsimp only at h
 conv=>lhs;whnf
 revert h
 refine cr hc (fun y28 h=>(show CN n 18 [AV.agg [iA (v0_u.mod),AV.sl 1 (List.map encI (v0_u.init)),AV.sl 1 (List.map encI (v0_u.regs)),AV.sl 1 (List.map encThr (v0_u.code))],iA v1_model,AV.sl 1 [[AV.sl 1 (List.map encI v2_v.f_Prefix)],[AV.sl 1 (List.map encI v2_v.f_Cycle)]]] []=some (bA y28,[]) from ok_report_named (r:=y28) h)) ?_;intro y28
 exact rz
 exact rz
 exact rz
 exact rz

end Go.Proofs.Ytmaklniljnbokaa
end

section
namespace Go.Proofs.Ytmaklniljnbokaa
set_option linter.unusedVariables false
set_option linter.unusedSimpArgs false
set_option maxRecDepth 100000
set_option maxHeartbeats 4000000

theorem ok_law24_unit {n:Nat} ⦃r:UnitS⦄:m_law24_unit n=some r→CN n 16 [] []=some (AV.agg [iA (r.mod),AV.sl 1 (List.map encI (r.init)),AV.sl 1 (List.map encI (r.regs)),AV.sl 1 (List.map encThr (r.code))],[]):=by
 intro h;rcases n with _|n;cases h
 rw [m_law24_unit] at h
 refine callN_eq' Try.func16 (by rfl) rfl rfl (Nat.le_of_ble_eq_true rfl) ?_
 intro call hc;conv=>lhs;whnf
 revert h
 exact rz
end Go.Proofs.Ytmaklniljnbokaa
end

section
namespace Go.Proofs.Ytmaklniljnbokaa
set_option linter.unusedVariables false
set_option linter.unusedSimpArgs false
set_option maxRecDepth 100000
set_option maxHeartbeats 4000000

theorem ok_ref07_Ints {n:Nat} ⦃v0_a:(List Int)⦄ ⦃v1_b:(List Int)⦄ ⦃r:Bool⦄:m_ref07_Ints n v0_a v1_b=some r→CN n 29 [AV.sl 1 (List.map encI v0_a),AV.sl 1 (List.map encI v1_b)] []=some (bA r,[]):=by
 intro h;rcases n with _|n;cases h
 rw [m_ref07_Ints] at h
 refine callN_eq' Try.func29 (by rfl) rfl rfl (Nat.le_of_ble_eq_true rfl) ?_
 intro call hc;conv=>lhs;whnf
 revert h
 refine br ?_ ?_
 exact rz
 intro h;refine bind_some2 h ?_;clear h;intro o10 ho10 h
 refine lq (σ:=Int) (τ:=Unit) (ν:=Bool) 0 (fun s2 a4=>stOf 26 [(0,AV.sl 1 (List.map encI v0_a)),(1,AV.sl 1 (List.map encI v1_b)),(5,iA s2)]) (fun s2 a4=>[]) (fun _ a15=>stOf 26 []) (fun _ a15=>[]) (fun v=>(bA v,[])) (fun k s=>ref07_Ints_L0 n v0_a v1_b k s) (fun s=>rfl) o10 n 0 (fun _=>0) ho10 ?_ ?_
 intro k3 s2 a4 K5 cont6 hK7 hcont8 h hr9
 replace h:ref07_Ints_L0 n v0_a v1_b (k3+1) s2=some o10:=h
 rw [ref07_Ints_L0] at h
 conv=>lhs;whnf
 revert h
 refine br ?_ ?_
 refine ix ?_;intro x12
 refine ix ?_;intro x13
 refine br ?_ ?_
 intro h;cases sj h
 refine (hK7 _ _).trans ?_
 refine Eq.trans ?_ (Eq.symm (show _=some _ from hr9))
 conv=>lhs;whnf
 exact rq
 exact fun h=>cq (hcont8 (IntKind.i64.wrap (s2+1)) (fun _=>0) h)
 intro h;cases sj h
 exact kq (hr9 (fun _=>0))
 refine lrc ?_ ?_
 intro v e;subst e;cases sj h;rfl
 intro t a15 e;subst e
 dsimp only at h
 conv=>lhs;whnf
 revert h
 exact rz
end Go.Proofs.Ytmaklniljnbokaa
end

section
namespace Go.Proofs.Ytmaklniljnbokaa
set_option linter.unusedVariables false
set_option linter.unusedSimpArgs false
set_option maxRecDepth 100000
set_option maxHeartbeats 4000000

theorem ok_ref21_Same {n:Nat} ⦃v0_a:(List S_api_Result)⦄ ⦃v1_b:(List S_api_Result)⦄ ⦃r:Bool⦄:m_ref21_Same n v0_a v1_b=some r→CN n 30 [AV.sl 3 (List.map c_api_Result v0_a),AV.sl 3 (List.map c_api_Result v1_b)] []=some (bA r,[]):=by
 intro h;rcases n with _|n;cases h
 rw [m_ref21_Same] at h
 refine callN_eq' Try.func30 (by rfl) rfl rfl (Nat.le_of_ble_eq_true rfl) ?_
 intro call hc;conv=>lhs;whnf
 revert h
 refine br ?_ ?_
 exact rz
 intro h;refine bind_some2 h ?_;clear h;intro o10 ho10 h
 refine lq (σ:=Int) (τ:=Unit) (ν:=Bool) 0 (fun s2 a4=>stOf 55 [(0,AV.sl 3 (List.map c_api_Result v0_a)),(1,AV.sl 3 (List.map c_api_Result v1_b)),(5,iA s2)]) (fun s2 a4=>[]) (fun _ a23=>stOf 55 []) (fun _ a23=>[]) (fun v=>(bA v,[])) (fun k s=>ref21_Same_L0 n v0_a v1_b k s) (fun s=>rfl) o10 n 0 (fun _=>0) ho10 ?_ ?_
 intro k3 s2 a4 K5 cont6 hK7 hcont8 h hr9
 replace h:ref21_Same_L0 n v0_a v1_b (k3+1) s2=some o10:=h
 rw [ref21_Same_L0] at h
 conv=>lhs;whnf
 revert h
 refine br ?_ ?_
 refine ix ?_;intro x12
 refine ix ?_;intro x13
 refine br ?_ ?_
 refine ix ?_;intro x15
 refine ix ?_;intro x16
 refine br ?_ ?_
 refine ix ?_;intro x18
 refine ix ?_;intro x19
 refine ca hc (fun _ h=>ok_ref07_Ints h) ?_;intro y20
 refine br ?_ ?_
 exact fun h=>cq (hcont8 (IntKind.i64.wrap (s2+1)) (fun _=>0) h)
 intro h;cases sj h
 refine (hK7 _ _).trans ?_
 refine Eq.trans ?_ (Eq.symm (show _=some _ from hr9))
 conv=>lhs;whnf
 exact rq
 intro h;cases sj h
 refine (hK7 _ _).trans ?_
 refine Eq.trans ?_ (Eq.symm (show _=some _ from hr9))
 conv=>lhs;whnf
 exact rq
 intro h;cases sj h
 refine (hK7 _ _).trans ?_
 refine Eq.trans ?_ (Eq.symm (show _=some _ from hr9))
 conv=>lhs;whnf
 exact rq
 intro h;cases sj h
 exact kq (hr9 (fun _=>0))
 refine lrc ?_ ?_
 intro v e;subst e;cases sj h;rfl
 intro t a23 e;subst e
 dsimp only at h
 conv=>lhs;whnf
 revert h
 exact rz
end Go.Proofs.Ytmaklniljnbokaa
end

section
namespace Go.Proofs.Ytmaklniljnbokaa
set_option linter.unusedVariables false
set_option linter.unusedSimpArgs false
set_option maxRecDepth 100000
set_option maxHeartbeats 4000000

theorem ok_ref23_Same {n:Nat} ⦃v0_a:S_api_Verdict⦄ ⦃v1_b:S_api_Verdict⦄ ⦃r:Bool⦄:m_ref23_Same n v0_a v1_b=some r→CN n 15 [AV.agg [iA v0_a.f_Outcome,AV.sl 1 (List.map encI v0_a.f_Prefix),AV.sl 1 (List.map encI v0_a.f_Cycle),AV.sl 3 (List.map c_api_Result v0_a.f_Results),iA v0_a.f_States,iA v0_a.f_Edges],AV.agg [iA v1_b.f_Outcome,AV.sl 1 (List.map encI v1_b.f_Prefix),AV.sl 1 (List.map encI v1_b.f_Cycle),AV.sl 3 (List.map c_api_Result v1_b.f_Results),iA v1_b.f_States,iA v1_b.f_Edges]] []=some (bA r,[]):=by
 intro h;rcases n with _|n;cases h
 rw [m_ref23_Same] at h
 refine callN_eq' Try.func15 (by rfl) rfl rfl (Nat.le_of_ble_eq_true rfl) ?_
 intro call hc;conv=>lhs;whnf
 revert h
 refine br ?_ ?_
 refine ca hc (fun _ h=>ok_ref07_Ints h) ?_;intro y2
 refine br ?_ ?_
 refine ca hc (fun _ h=>ok_ref07_Ints h) ?_;intro y5
 refine br ?_ ?_
 refine ca hc (fun _ h=>ok_ref21_Same h) ?_;intro y8
 refine br ?_ ?_
 refine br ?_ ?_
 exact rz
 exact rz
 exact rz
 exact rz
 exact rz
 exact rz
end Go.Proofs.Ytmaklniljnbokaa
end

section
namespace Go.Proofs.Ytmaklniljnbokaa
set_option linter.unusedVariables false
set_option linter.unusedSimpArgs false
set_option maxRecDepth 100000
set_option maxHeartbeats 4000000

theorem ok_law24_known {n:Nat} ⦃r:Bool⦄:m_law24_known n=some r→CN n 7 [] []=some (bA r,[]):=by
 intro h;rcases n with _|n;cases h
 rw [m_law24_known] at h
 refine callN_eq' Try.func7 (by rfl) rfl rfl (Nat.le_of_ble_eq_true rfl) ?_
 intro call hc;conv=>lhs;whnf
 revert h
 refine ca hc (fun _ h=>ok_law24_unit h) ?_;intro y1
 refine cr hc (fun y3 h=>(show CN n 10 [AV.agg [iA (y1.mod),AV.sl 1 (List.map encI (y1.init)),AV.sl 1 (List.map encI (y1.regs)),AV.sl 1 (List.map encThr (y1.code))],iA (2),AV.agg [iA (2),AV.sl 1 [[iA (0)],[iA (1)]],AV.sl 1 [],AV.sl 3 [[bA true,bA false,AV.sl 1 []],[bA false,bA true,AV.sl 1 []],[bA true,bA true,AV.sl 1 [[iA (0)]]]],iA (3),iA (20)]] []=some (sA y3,[]) from ok_report_Show (r:=y3) h)) ?_;intro y3
 refine ca hc (fun _ h=>ok_law24_unit h) ?_;intro y5
 refine ca hc (fun _ h=>ok_report_Parse h) ?_;intro y7
 refine ca hc (fun _ h=>ok_law24_unit h) ?_;intro y9
 refine ca hc (fun _ h=>ok_report_Parse h) ?_;intro y11
 refine ca hc (fun _ h=>ok_law24_unit h) ?_;intro y13
 refine cr hc (fun _ h=>ok_report_Parse h) ?_;intro y15
 refine br ?_ ?_
 refine cr hc (fun y18 h=>(show CN n 15 [AV.agg [iA (2),AV.sl 1 [[iA (0)],[iA (1)]],AV.sl 1 [],AV.sl 3 [[bA true,bA false,AV.sl 1 []],[bA false,bA true,AV.sl 1 []],[bA true,bA true,AV.sl 1 [[iA (0)]]]],iA (3),iA (20)],AV.agg [iA y7.1.f_Outcome,AV.sl 1 (List.map encI y7.1.f_Prefix),AV.sl 1 (List.map encI y7.1.f_Cycle),AV.sl 3 (List.map c_api_Result y7.1.f_Results),iA y7.1.f_States,iA y7.1.f_Edges]] []=some (bA y18,[]) from ok_ref23_Same (r:=y18) h)) ?_;intro y18
 refine br ?_ ?_
 refine br ?_ ?_
 refine br ?_ ?_
 refine br ?_ ?_
 refine br ?_ ?_
 refine br ?_ ?_
 refine br ?_ ?_
 refine ca hc (fun _ h=>ok_law24_unit h) ?_;intro y27
 refine cr hc (fun y29 h=>(show CN n 8 [AV.agg [iA (y27.mod),AV.sl 1 (List.map encI (y27.init)),AV.sl 1 (List.map encI (y27.regs)),AV.sl 1 (List.map encThr (y27.code))],iA (2),AV.agg [iA (2),AV.sl 1 [[iA (0)],[iA (1)]],AV.sl 1 [],AV.sl 3 [[bA true,bA false,AV.sl 1 []],[bA false,bA true,AV.sl 1 []],[bA true,bA true,AV.sl 1 [[iA (0)]]]],iA (3),iA (20)]] []=some (bA y29,[]) from ok_report_Right (r:=y29) h)) ?_;intro y29
 refine br ?_ ?_
 refine ca hc (fun _ h=>ok_law24_unit h) ?_;intro y32
 refine cr hc (fun y34 h=>(show CN n 8 [AV.agg [iA (y32.mod),AV.sl 1 (List.map encI (y32.init)),AV.sl 1 (List.map encI (y32.regs)),AV.sl 1 (List.map encThr (y32.code))],iA (1),AV.agg [iA (2),AV.sl 1 [[iA (0)],[iA (1)]],AV.sl 1 [],AV.sl 3 [[bA true,bA false,AV.sl 1 []],[bA false,bA true,AV.sl 1 []],[bA true,bA true,AV.sl 1 [[iA (0)]]]],iA (3),iA (20)]] []=some (bA y34,[]) from ok_report_Right (r:=y34) h)) ?_;intro y34
 exact rz
 exact rz
 exact rz
 exact rz
 exact rz
 exact rz
 exact rz
 exact rz
 exact rz
 exact rz
end Go.Proofs.Ytmaklniljnbokaa
end

section
namespace Go.Proofs.Ytmaklniljnbokaa
set_option linter.unusedVariables false
set_option linter.unusedSimpArgs false
set_option maxRecDepth 100000
set_option maxHeartbeats 4000000

theorem ok_law24_light {n:Nat} ⦃v0_u:UnitS⦄ ⦃v1_v:S_api_Verdict⦄ ⦃r:Bool⦄:m_law24_light n v0_u v1_v=some r→CN n 6 [AV.agg [iA (v0_u.mod),AV.sl 1 (List.map encI (v0_u.init)),AV.sl 1 (List.map encI (v0_u.regs)),AV.sl 1 (List.map encThr (v0_u.code))],AV.agg [iA v1_v.f_Outcome,AV.sl 1 (List.map encI v1_v.f_Prefix),AV.sl 1 (List.map encI v1_v.f_Cycle),AV.sl 3 (List.map c_api_Result v1_v.f_Results),iA v1_v.f_States,iA v1_v.f_Edges]] []=some (bA r,[]):=by
 intro h;rcases n with _|n;cases h
 rw [m_law24_light] at h
 refine callN_eq' Try.func6 (by rfl) rfl rfl (Nat.le_of_ble_eq_true rfl) ?_
 intro call hc;conv=>lhs;whnf
 revert h
 refine ca hc (fun _ h=>ok_ref07_Light h) ?_;intro y1
 refine br ?_ ?_
 refine br ?_ ?_
 exact rz
 refine br ?_ ?_
 exact rz
 refine br ?_ ?_
 exact rz
 intro h;refine bind_some2 h ?_;clear h;intro o15 ho15 h
 refine lq (σ:=Int) (τ:=Unit) (ν:=Bool) 0 (fun s7 a9=>stOf 42 [(3,AV.ptr 1 0),(5,iA s7)]) (fun s7 a9=>[Ob.var 25 [iA (v0_u.mod),AV.sl 1 (List.map encI (v0_u.init)),AV.sl 1 (List.map encI (v0_u.regs)),AV.sl 1 (List.map encThr (v0_u.code))],Ob.var 28 [iA v1_v.f_Outcome,AV.sl 1 (List.map encI v1_v.f_Prefix),AV.sl 1 (List.map encI v1_v.f_Cycle),AV.sl 3 (List.map c_api_Result v1_v.f_Results),iA v1_v.f_States,iA v1_v.f_Edges]]) (fun _ a19=>stOf 42 []) (fun _ a19=>[Ob.var 25 [iA (v0_u.mod),AV.sl 1 (List.map encI (v0_u.init)),AV.sl 1 (List.map encI (v0_u.regs)),AV.sl 1 (List.map encThr (v0_u.code))],Ob.var 28 [iA v1_v.f_Outcome,AV.sl 1 (List.map encI v1_v.f_Prefix),AV.sl 1 (List.map encI v1_v.f_Cycle),AV.sl 3 (List.map c_api_Result v1_v.f_Results),iA v1_v.f_States,iA v1_v.f_Edges]]) (fun v=>(bA v,[])) (fun k s=>law24_light_L0 n v1_v k s) (fun s=>rfl) o15 n 0 (fun _=>0) ho15 ?_ ?_
 intro k8 s7 a9 K10 cont11 hK12 hcont13 h hr14
 replace h:law24_light_L0 n v1_v (k8+1) s7=some o15:=h
 rw [law24_light_L0] at h
 conv=>lhs;whnf
 revert h
 refine br ?_ ?_
 refine ix ?_;intro x17
 refine br ?_ ?_
 intro h;cases sj h
 refine (hK12 _ _).trans ?_
 refine Eq.trans ?_ (Eq.symm (show _=some _ from hr14))
 conv=>lhs;whnf
 exact rq
 exact fun h=>cq (hcont13 (IntKind.i64.wrap (s7+1)) (fun _=>0) h)
 intro h;cases sj h
 exact kq (hr14 (fun _=>0))
 refine lrc ?_ ?_
 intro v e;subst e;cases sj h;rfl
 intro t a19 e;subst e
 dsimp only at h
 conv=>lhs;whnf
 revert h
 exact rz
 exact rz
end Go.Proofs.Ytmaklniljnbokaa
end

section
namespace Go.Proofs.Ytmaklniljnbokaa
set_option linter.unusedVariables false
set_option linter.unusedSimpArgs false
set_option maxRecDepth 100000
set_option maxHeartbeats 4000000

def OK_ref01_Digits (n:Nat):Prop:=∀ ⦃v0_n:Int⦄ ⦃r:(List UInt8)⦄,m_ref01_Digits n v0_n=some r→CN n 24 [iA v0_n] []=some (sA r,[])
def IH_ref01_Digits (n : Nat) : Prop := OK_ref01_Digits n
theorem st_ref01_Digits (n:Nat) (ih:IH_ref01_Digits n):OK_ref01_Digits (n+1):=by
 intro v0_n r h
 rw [m_ref01_Digits] at h
 refine callN_eq' Try.func24 (by rfl) rfl rfl (Nat.le_of_ble_eq_true rfl) ?_
 intro call hc;conv=>lhs;whnf
 revert h
 refine br ?_ ?_
 exact rz
 refine ca hc (fun _ h=>ih h) ?_;intro y2
 intro h
 refine chk_some2 h ?_;clear h;intro hc4 h
 refine bif_pos hc4 ?_
 try simp only [ls]
 conv=>lhs;whnf
 revert h
 exact rz
theorem all_ref01_Digits : ∀ n, IH_ref01_Digits n
  | 0 => by unfold IH_ref01_Digits OK_ref01_Digits; intros; rename_i h; exact absurd h (by intro h; cases h)
  | n + 1 => have ih := all_ref01_Digits n
    st_ref01_Digits n ih
theorem ok_ref01_Digits {n : Nat} : OK_ref01_Digits n := (all_ref01_Digits n)
end Go.Proofs.Ytmaklniljnbokaa
end

section
namespace Go.Proofs.Ytmaklniljnbokaa
set_option linter.unusedVariables false
set_option linter.unusedSimpArgs false
set_option maxRecDepth 100000
set_option maxHeartbeats 4000000

theorem ok_ref11_Agents {n:Nat} ⦃v0_u:UnitS⦄ ⦃v1_model:Int⦄ ⦃r:Int⦄:m_ref11_Agents n v0_u v1_model=some r→CN n 45 [AV.agg [iA (v0_u.mod),AV.sl 1 (List.map encI (v0_u.init)),AV.sl 1 (List.map encI (v0_u.regs)),AV.sl 1 (List.map encThr (v0_u.code))],iA v1_model] []=some (iA r,[]):=by
 intro h;rcases n with _|n;cases h
 rw [m_ref11_Agents] at h
 refine callN_eq' Try.func45 (by rfl) rfl rfl (Nat.le_of_ble_eq_true rfl) ?_
 intro call hc;conv=>lhs;whnf
 revert h
 refine ca hc (fun _ h=>ok_ref07_Right h) ?_;intro y1
 refine br ?_ ?_
 refine br ?_ ?_
 exact rz
 refine br ?_ ?_
 exact rz
 refine br ?_ ?_
 exact rz
 exact rz
 exact rz

theorem ok_ref11_Name {n:Nat} ⦃v0_u:UnitS⦄ ⦃v1_model:Int⦄ ⦃v2_a:Int⦄ ⦃r:(List UInt8)⦄:m_ref11_Name n v0_u v1_model v2_a=some r→CN n 32 [AV.agg [iA (v0_u.mod),AV.sl 1 (List.map encI (v0_u.init)),AV.sl 1 (List.map encI (v0_u.regs)),AV.sl 1 (List.map encThr (v0_u.code))],iA v1_model,iA v2_a] []=some (sA r,[]):=by
 intro h;rcases n with _|n;cases h
 rw [m_ref11_Name] at h
 refine callN_eq' Try.func32 (by rfl) rfl rfl (Nat.le_of_ble_eq_true rfl) ?_
 intro call hc;conv=>lhs;whnf
 revert h
 refine br ?_ ?_
 exact rz
 refine ca hc (fun _ h=>ok_ref11_Agents h) ?_;intro y2
 refine br ?_ ?_
 exact rz
 refine br ?_ ?_
 refine ca hc (fun _ h=>ok_ref01_Digits h) ?_;intro y6
 intro h
 refine chk_some2 h ?_;clear h;intro hc8 h
 refine bif_pos hc8 ?_
 try simp only [ls]
 conv=>lhs;whnf
 revert h
 exact rz
 refine br ?_ ?_
 refine cr hc (fun _ h=>ok_ref01_Digits h) ?_;intro y10
 intro h
 refine chk_some2 h ?_;clear h;intro hc12 h
 refine bif_pos hc12 ?_
 try simp only [ls]
 conv=>lhs;whnf
 revert h
 exact rz
 refine bf ?_
 refine cr hc (fun _ h=>ok_ref01_Digits h) ?_;intro y14
 intro h
 refine chk_some2 h ?_;clear h;intro hc16 h
 refine bif_pos hc16 ?_
 try simp only [ls]
 conv=>lhs;whnf
 revert h
 intro h
 refine chk_some2 h ?_;clear h;intro hc17 h
 refine bif_pos hc17 ?_
 try simp only [ls]
 conv=>lhs;whnf
 revert h
 refine bf ?_
 refine cr hc (fun _ h=>ok_ref01_Digits h) ?_;intro y19
 intro h
 refine chk_some2 h ?_;clear h;intro hc21 h
 refine bif_pos hc21 ?_
 try simp only [ls]
 conv=>lhs;whnf
 revert h
 exact rz

end Go.Proofs.Ytmaklniljnbokaa
end

section
namespace Go.Proofs.Ytmaklniljnbokaa
set_option linter.unusedVariables false
set_option linter.unusedSimpArgs false
set_option maxRecDepth 100000
set_option maxHeartbeats 4000000

theorem ok_ref16_Text {n:Nat} ⦃v0_u:UnitS⦄ ⦃v1_model:Int⦄ ⦃v2_path:(List Int)⦄ ⦃r:(List UInt8)⦄:m_ref16_Text n v0_u v1_model v2_path=some r→CN n 35 [AV.agg [iA (v0_u.mod),AV.sl 1 (List.map encI (v0_u.init)),AV.sl 1 (List.map encI (v0_u.regs)),AV.sl 1 (List.map encThr (v0_u.code))],iA v1_model,AV.sl 1 (List.map encI v2_path)] []=some (sA r,[]):=by
 intro h;rcases n with _|n;cases h
 rw [m_ref16_Text] at h
 refine callN_eq' Try.func35 (by rfl) rfl rfl (Nat.le_of_ble_eq_true rfl) ?_
 intro call hc;conv=>lhs;whnf
 revert h
 intro h;refine bind_some2 h ?_;clear h;intro o10 ho10 h
 refine lq (σ:=((List UInt8)×Int)) (τ:=(List UInt8)) (ν:=(List UInt8)) 0 (fun (s1,s2) a4=>stOf 33 [(1,iA v1_model),(2,AV.sl 1 (List.map encI v2_path)),(3,AV.ptr 0 0),(7,sA s1),(8,iA s2)]) (fun (s1,s2) a4=>[Ob.var 25 [iA (v0_u.mod),AV.sl 1 (List.map encI (v0_u.init)),AV.sl 1 (List.map encI (v0_u.regs)),AV.sl 1 (List.map encThr (v0_u.code))]]) (fun x27 a26=>stOf 33 [(7,sA x27)]) (fun x27 a26=>[Ob.var 25 [iA (v0_u.mod),AV.sl 1 (List.map encI (v0_u.init)),AV.sl 1 (List.map encI (v0_u.regs)),AV.sl 1 (List.map encThr (v0_u.code))]]) (fun v=>(sA v,[])) (fun k s=>ref16_Text_L0 n v0_u v1_model v2_path k s.1 s.2) (fun s=>rfl) o10 n (([]:List UInt8),0) (fun _=>0) ho10 ?_ ?_
 intro k3 ss a4 K5 cont6 hK7 hcont8 h hr9
 obtain ⟨s1,s2⟩:=ss
 replace h:ref16_Text_L0 n v0_u v1_model v2_path (k3+1) s1 s2=some o10:=h
 rw [ref16_Text_L0] at h
 conv=>lhs;whnf
 revert h
 refine br ?_ ?_
 refine br ?_ ?_
 intro h
 refine chk_some2 h ?_;clear h;intro hc13 h
 refine bif_pos hc13 ?_
 try simp only [ls]
 conv=>lhs;whnf
 revert h
 refine ix ?_;intro x14
 refine ca hc (fun _ h=>ok_ref11_Name h) ?_;intro y15
 refine br ?_ ?_
 intro h
 refine chk_some2 h ?_;clear h;intro hc18 h
 refine bif_pos hc18 ?_
 try simp only [ls]
 conv=>lhs;whnf
 revert h
 exact fun h=>cq (hcont8 (((s1++([32]:List UInt8))++([63]:List UInt8)),IntKind.i64.wrap (s2+1)) (fun _=>0) h)
 intro h
 refine chk_some2 h ?_;clear h;intro hc19 h
 refine bif_pos hc19 ?_
 try simp only [ls]
 conv=>lhs;whnf
 revert h
 exact fun h=>cq (hcont8 (((s1++([32]:List UInt8))++y15),IntKind.i64.wrap (s2+1)) (fun _=>0) h)
 refine ix ?_;intro x20
 refine ca hc (fun _ h=>ok_ref11_Name h) ?_;intro y21
 refine br ?_ ?_
 intro h
 refine chk_some2 h ?_;clear h;intro hc24 h
 refine bif_pos hc24 ?_
 try simp only [ls]
 conv=>lhs;whnf
 revert h
 exact fun h=>cq (hcont8 ((s1++([63]:List UInt8)),IntKind.i64.wrap (s2+1)) (fun _=>0) h)
 intro h
 refine chk_some2 h ?_;clear h;intro hc25 h
 refine bif_pos hc25 ?_
 try simp only [ls]
 conv=>lhs;whnf
 revert h
 exact fun h=>cq (hcont8 ((s1++y21),IntKind.i64.wrap (s2+1)) (fun _=>0) h)
 intro h;cases sj h
 exact kq (hr9 (fun _=>0))
 refine lrc ?_ ?_
 intro v e;subst e;cases sj h;rfl
 intro x27 a26 e;subst e
 dsimp only at h
 conv=>lhs;whnf
 revert h
 exact rz
end Go.Proofs.Ytmaklniljnbokaa
end

section
namespace Go.Proofs.Ytmaklniljnbokaa
set_option linter.unusedVariables false
set_option linter.unusedSimpArgs false
set_option maxRecDepth 100000
set_option maxHeartbeats 4000000

theorem ok_ref24_outcomes {n:Nat} ⦃r:(List (List UInt8))⦄:m_ref24_outcomes n=some r→CN n 23 [] []=some (AV.sl 1 (List.map encS r),[]):=by
 intro h;rcases n with _|n;cases h
 rw [m_ref24_outcomes] at h
 refine callN_eq' Try.func23 (by rfl) rfl rfl (Nat.le_of_ble_eq_true rfl) ?_
 intro call hc;conv=>lhs;whnf
 revert h
 exact rz

theorem ok_ref24_named {n:Nat} ⦃v0_u:UnitS⦄ ⦃v1_model:Int⦄ ⦃v2_path:(List Int)⦄ ⦃r:Bool⦄:m_ref24_named n v0_u v1_model v2_path=some r→CN n 19 [AV.agg [iA (v0_u.mod),AV.sl 1 (List.map encI (v0_u.init)),AV.sl 1 (List.map encI (v0_u.regs)),AV.sl 1 (List.map encThr (v0_u.code))],iA v1_model,AV.sl 1 (List.map encI v2_path)] []=some (bA r,[]):=by
 intro h;rcases n with _|n;cases h
 rw [m_ref24_named] at h
 refine callN_eq' Try.func19 (by rfl) rfl rfl (Nat.le_of_ble_eq_true rfl) ?_
 intro call hc;conv=>lhs;whnf
 revert h
 intro h;refine bind_some2 h ?_;clear h;intro o9 ho9 h
 refine lq (σ:=Int) (τ:=Unit) (ν:=Bool) 0 (fun s1 a3=>stOf 22 [(1,iA v1_model),(2,AV.sl 1 (List.map encI v2_path)),(3,AV.ptr 0 0),(7,iA s1)]) (fun s1 a3=>[Ob.var 25 [iA (v0_u.mod),AV.sl 1 (List.map encI (v0_u.init)),AV.sl 1 (List.map encI (v0_u.regs)),AV.sl 1 (List.map encThr (v0_u.code))]]) (fun _ a15=>stOf 22 []) (fun _ a15=>[Ob.var 25 [iA (v0_u.mod),AV.sl 1 (List.map encI (v0_u.init)),AV.sl 1 (List.map encI (v0_u.regs)),AV.sl 1 (List.map encThr (v0_u.code))]]) (fun v=>(bA v,[])) (fun k s=>ref24_named_L0 n v0_u v1_model v2_path k s) (fun s=>rfl) o9 n 0 (fun _=>0) ho9 ?_ ?_
 intro k2 s1 a3 K4 cont5 hK6 hcont7 h hr8
 replace h:ref24_named_L0 n v0_u v1_model v2_path (k2+1) s1=some o9:=h
 rw [ref24_named_L0] at h
 conv=>lhs;whnf
 revert h
 refine br ?_ ?_
 refine ix ?_;intro x11
 refine ca hc (fun _ h=>ok_ref11_Name h) ?_;intro y12
 refine br ?_ ?_
 intro h;cases sj h
 refine (hK6 _ _).trans ?_
 refine Eq.trans ?_ (Eq.symm (show _=some _ from hr8))
 conv=>lhs;whnf
 exact rq
 exact fun h=>cq (hcont7 (IntKind.i64.wrap (s1+1)) (fun _=>0) h)
 intro h;cases sj h
 exact kq (hr8 (fun _=>0))
 refine lrc ?_ ?_
 intro v e;subst e;cases sj h;rfl
 intro t a15 e;subst e
 dsimp only at h
 conv=>lhs;whnf
 revert h
 exact rz

theorem ok_ref24_Right {n:Nat} ⦃v0_u:UnitS⦄ ⦃v1_model:Int⦄ ⦃v2_v:S_api_Verdict⦄ ⦃r:Bool⦄:m_ref24_Right n v0_u v1_model v2_v=some r→CN n 9 [AV.agg [iA (v0_u.mod),AV.sl 1 (List.map encI (v0_u.init)),AV.sl 1 (List.map encI (v0_u.regs)),AV.sl 1 (List.map encThr (v0_u.code))],iA v1_model,AV.agg [iA v2_v.f_Outcome,AV.sl 1 (List.map encI v2_v.f_Prefix),AV.sl 1 (List.map encI v2_v.f_Cycle),AV.sl 3 (List.map c_api_Result v2_v.f_Results),iA v2_v.f_States,iA v2_v.f_Edges]] []=some (bA r,[]):=by
 intro h;rcases n with _|n;cases h
 rw [m_ref24_Right] at h
 refine callN_eq' Try.func9 (by rfl) rfl rfl (Nat.le_of_ble_eq_true rfl) ?_
 intro call hc;conv=>lhs;whnf
 revert h
 refine br ?_ ?_
 exact rz
 refine br ?_ ?_
 exact rz
 refine br ?_ ?_
 exact rz
 refine br ?_ ?_
 exact rz
 refine br ?_ ?_
 exact rz
 refine br ?_ ?_
 exact rz
 refine br ?_ ?_
 exact rz
 refine ca hc (fun _ h=>ok_ref24_named h) ?_;intro y8
 refine br ?_ ?_
 refine ca hc (fun _ h=>ok_ref24_named h) ?_;intro y11
 refine br ?_ ?_
 intro h;refine bind_some2 h ?_;clear h;intro o22 ho22 h
 refine lq (σ:=Int) (τ:=Unit) (ν:=Bool) 0 (fun s14 a16=>stOf 94 [(1,iA v1_model),(3,AV.ptr 0 0),(5,AV.ptr 1 0),(7,iA s14)]) (fun s14 a16=>[Ob.var 25 [iA (v0_u.mod),AV.sl 1 (List.map encI (v0_u.init)),AV.sl 1 (List.map encI (v0_u.regs)),AV.sl 1 (List.map encThr (v0_u.code))],Ob.var 28 [iA v2_v.f_Outcome,AV.sl 1 (List.map encI v2_v.f_Prefix),AV.sl 1 (List.map encI v2_v.f_Cycle),AV.sl 3 (List.map c_api_Result v2_v.f_Results),iA v2_v.f_States,iA v2_v.f_Edges]]) (fun _ a32=>stOf 94 []) (fun _ a32=>[Ob.var 25 [iA (v0_u.mod),AV.sl 1 (List.map encI (v0_u.init)),AV.sl 1 (List.map encI (v0_u.regs)),AV.sl 1 (List.map encThr (v0_u.code))],Ob.var 28 [iA v2_v.f_Outcome,AV.sl 1 (List.map encI v2_v.f_Prefix),AV.sl 1 (List.map encI v2_v.f_Cycle),AV.sl 3 (List.map c_api_Result v2_v.f_Results),iA v2_v.f_States,iA v2_v.f_Edges]]) (fun v=>(bA v,[])) (fun k s=>ref24_Right_L0 n v0_u v1_model v2_v k s) (fun s=>rfl) o22 n 0 (fun _=>0) ho22 ?_ ?_
 intro k15 s14 a16 K17 cont18 hK19 hcont20 h hr21
 replace h:ref24_Right_L0 n v0_u v1_model v2_v (k15+1) s14=some o22:=h
 rw [ref24_Right_L0] at h
 conv=>lhs;whnf
 revert h
 refine br ?_ ?_
 refine ix ?_;intro x24
 refine ca hc (fun _ h=>ok_ref24_named h) ?_;intro y25
 refine br ?_ ?_
 refine ix ?_;intro x28
 refine br ?_ ?_
 exact fun h=>cq (hcont20 (IntKind.i64.wrap (s14+1)) (fun _=>0) h)
 refine ix ?_;intro x30
 refine br ?_ ?_
 intro h;cases sj h
 refine (hK19 _ _).trans ?_
 refine Eq.trans ?_ (Eq.symm (show _=some _ from hr21))
 conv=>lhs;whnf
 exact rq
 exact fun h=>cq (hcont20 (IntKind.i64.wrap (s14+1)) (fun _=>0) h)
 intro h;cases sj h
 refine (hK19 _ _).trans ?_
 refine Eq.trans ?_ (Eq.symm (show _=some _ from hr21))
 conv=>lhs;whnf
 exact rq
 intro h;cases sj h
 exact kq (hr21 (fun _=>0))
 refine lrc ?_ ?_
 intro v e;subst e;cases sj h;rfl
 intro t a32 e;subst e
 dsimp only at h
 conv=>lhs;whnf
 revert h
 exact rz
 exact rz
 exact rz

theorem ok_ref24_path {n:Nat} ⦃v0_u:UnitS⦄ ⦃v1_model:Int⦄ ⦃v2_l:(List Int)⦄ ⦃r:(List UInt8)⦄:m_ref24_path n v0_u v1_model v2_l=some r→CN n 25 [AV.agg [iA (v0_u.mod),AV.sl 1 (List.map encI (v0_u.init)),AV.sl 1 (List.map encI (v0_u.regs)),AV.sl 1 (List.map encThr (v0_u.code))],iA v1_model,AV.sl 1 (List.map encI v2_l)] []=some (sA r,[]):=by
 intro h;rcases n with _|n;cases h
 rw [m_ref24_path] at h
 refine callN_eq' Try.func25 (by rfl) rfl rfl (Nat.le_of_ble_eq_true rfl) ?_
 intro call hc;conv=>lhs;whnf
 revert h
 refine br ?_ ?_
 exact rz
 refine ca hc (fun _ h=>ok_ref16_Text h) ?_;intro y2
 intro h
 refine chk_some2 h ?_;clear h;intro hc4 h
 refine bif_pos hc4 ?_
 try simp only [ls]
 conv=>lhs;whnf
 revert h
 exact rz

theorem ok_ref24_result {n:Nat} ⦃v0_u:UnitS⦄ ⦃v1_model:Int⦄ ⦃v2_r:S_api_Result⦄ ⦃r:(List UInt8)⦄:m_ref24_result n v0_u v1_model v2_r=some r→CN n 26 [AV.agg [iA (v0_u.mod),AV.sl 1 (List.map encI (v0_u.init)),AV.sl 1 (List.map encI (v0_u.regs)),AV.sl 1 (List.map encThr (v0_u.code))],iA v1_model,AV.agg [bA v2_r.f_Holds,bA v2_r.f_Has,AV.sl 1 (List.map encI v2_r.f_Path)]] []=some (sA r,[]):=by
 intro h;rcases n with _|n;cases h
 rw [m_ref24_result] at h
 refine callN_eq' Try.func26 (by rfl) rfl rfl (Nat.le_of_ble_eq_true rfl) ?_
 intro call hc;conv=>lhs;whnf
 revert h
 refine br ?_ ?_
 refine br ?_ ?_
 refine ca hc (fun _ h=>ok_ref24_path h) ?_;intro y3
 intro h
 refine chk_some2 h ?_;clear h;intro hc5 h
 refine bif_pos hc5 ?_
 try simp only [ls]
 conv=>lhs;whnf
 revert h
 intro h
 refine chk_some2 h ?_;clear h;intro hc6 h
 refine bif_pos hc6 ?_
 try simp only [ls]
 conv=>lhs;whnf
 revert h
 exact rz
 exact rz
 refine br ?_ ?_
 refine ca hc (fun _ h=>ok_ref24_path h) ?_;intro y8
 intro h
 refine chk_some2 h ?_;clear h;intro hc10 h
 refine bif_pos hc10 ?_
 try simp only [ls]
 conv=>lhs;whnf
 revert h
 intro h
 refine chk_some2 h ?_;clear h;intro hc11 h
 refine bif_pos hc11 ?_
 try simp only [ls]
 conv=>lhs;whnf
 revert h
 exact rz
 exact rz

theorem ok_ref24_Show {n:Nat} ⦃v0_u:UnitS⦄ ⦃v1_model:Int⦄ ⦃v2_v:S_api_Verdict⦄ ⦃r:(List UInt8)⦄:m_ref24_Show n v0_u v1_model v2_v=some r→CN n 11 [AV.agg [iA (v0_u.mod),AV.sl 1 (List.map encI (v0_u.init)),AV.sl 1 (List.map encI (v0_u.regs)),AV.sl 1 (List.map encThr (v0_u.code))],iA v1_model,AV.agg [iA v2_v.f_Outcome,AV.sl 1 (List.map encI v2_v.f_Prefix),AV.sl 1 (List.map encI v2_v.f_Cycle),AV.sl 3 (List.map c_api_Result v2_v.f_Results),iA v2_v.f_States,iA v2_v.f_Edges]] []=some (sA r,[]):=by
 intro h;rcases n with _|n;cases h
 rw [m_ref24_Show] at h
 refine callN_eq' Try.func11 (by rfl) rfl rfl (Nat.le_of_ble_eq_true rfl) ?_
 intro call hc;conv=>lhs;whnf
 revert h
 refine ca hc (fun _ h=>ok_ref24_Right h) ?_;intro y1
 refine br ?_ ?_
 refine ca hc (fun _ h=>ok_ref24_outcomes h) ?_;intro y4
 refine ix ?_;intro x6
 intro h
 refine chk_some2 h ?_;clear h;intro hc7 h
 refine bif_pos hc7 ?_
 try simp only [ls]
 conv=>lhs;whnf
 revert h
 intro h
 refine chk_some2 h ?_;clear h;intro hc8 h
 refine bif_pos hc8 ?_
 try simp only [ls]
 conv=>lhs;whnf
 revert h
 refine ca hc (fun _ h=>ok_ref01_Digits h) ?_;intro y9
 intro h
 refine chk_some2 h ?_;clear h;intro hc11 h
 refine bif_pos hc11 ?_
 try simp only [ls]
 conv=>lhs;whnf
 revert h
 intro h
 refine chk_some2 h ?_;clear h;intro hc12 h
 refine bif_pos hc12 ?_
 try simp only [ls]
 conv=>lhs;whnf
 revert h
 refine ca hc (fun _ h=>ok_ref01_Digits h) ?_;intro y13
 intro h
 refine chk_some2 h ?_;clear h;intro hc15 h
 refine bif_pos hc15 ?_
 try simp only [ls]
 conv=>lhs;whnf
 revert h
 intro h
 refine chk_some2 h ?_;clear h;intro hc16 h
 refine bif_pos hc16 ?_
 try simp only [ls]
 conv=>lhs;whnf
 revert h
 refine ca hc (fun _ h=>ok_ref24_path h) ?_;intro y17
 intro h
 refine chk_some2 h ?_;clear h;intro hc19 h
 refine bif_pos hc19 ?_
 try simp only [ls]
 conv=>lhs;whnf
 revert h
 intro h
 refine chk_some2 h ?_;clear h;intro hc20 h
 refine bif_pos hc20 ?_
 try simp only [ls]
 conv=>lhs;whnf
 revert h
 refine ca hc (fun _ h=>ok_ref24_path h) ?_;intro y21
 intro h
 refine chk_some2 h ?_;clear h;intro hc23 h
 refine bif_pos hc23 ?_
 try simp only [ls]
 conv=>lhs;whnf
 revert h
 intro h
 refine chk_some2 h ?_;clear h;intro hc24 h
 refine bif_pos hc24 ?_
 try simp only [ls]
 conv=>lhs;whnf
 revert h
 intro h;refine bind_some2 h ?_;clear h;intro o34 ho34 h
 refine lq (σ:=((List UInt8)×Int)) (τ:=(List UInt8)) (ν:=(List UInt8)) 0 (fun (s25,s26) a28=>stOf 63 [(1,iA v1_model),(3,AV.ptr 0 0),(5,AV.ptr 1 0),(7,sA s25),(8,iA s26)]) (fun (s25,s26) a28=>[Ob.var 25 [iA (v0_u.mod),AV.sl 1 (List.map encI (v0_u.init)),AV.sl 1 (List.map encI (v0_u.regs)),AV.sl 1 (List.map encThr (v0_u.code))],Ob.var 28 [iA v2_v.f_Outcome,AV.sl 1 (List.map encI v2_v.f_Prefix),AV.sl 1 (List.map encI v2_v.f_Cycle),AV.sl 3 (List.map c_api_Result v2_v.f_Results),iA v2_v.f_States,iA v2_v.f_Edges]]) (fun x41 a40=>stOf 63 [(7,sA x41)]) (fun x41 a40=>[Ob.var 25 [iA (v0_u.mod),AV.sl 1 (List.map encI (v0_u.init)),AV.sl 1 (List.map encI (v0_u.regs)),AV.sl 1 (List.map encThr (v0_u.code))],Ob.var 28 [iA v2_v.f_Outcome,AV.sl 1 (List.map encI v2_v.f_Prefix),AV.sl 1 (List.map encI v2_v.f_Cycle),AV.sl 3 (List.map c_api_Result v2_v.f_Results),iA v2_v.f_States,iA v2_v.f_Edges]]) (fun v=>(sA v,[])) (fun k s=>ref24_Show_L0 n v0_u v1_model v2_v k s.1 s.2) (fun s=>rfl) o34 n (((((((((((([111,117,116,99,111,109,101,32]:List UInt8)++x6)++([10,115,116,97,116,101,115,32]:List UInt8))++y9)++([10,101,100,103,101,115,32]:List UInt8))++y13)++([10,112,114,101,102,105,120]:List UInt8))++y17)++([10,99,121,99,108,101]:List UInt8))++y21)++([10]:List UInt8)),0) (fun _=>0) ho34 ?_ ?_
 intro k27 ss a28 K29 cont30 hK31 hcont32 h hr33
 obtain ⟨s25,s26⟩:=ss
 replace h:ref24_Show_L0 n v0_u v1_model v2_v (k27+1) s25 s26=some o34:=h
 rw [ref24_Show_L0] at h
 conv=>lhs;whnf
 revert h
 refine br ?_ ?_
 refine ix ?_;intro x36
 refine ca hc (fun _ h=>ok_ref24_result h) ?_;intro y37
 intro h
 refine chk_some2 h ?_;clear h;intro hc39 h
 refine bif_pos hc39 ?_
 try simp only [ls]
 conv=>lhs;whnf
 revert h
 exact fun h=>cq (hcont32 ((s25++y37),IntKind.i64.wrap (s26+1)) (fun _=>0) h)
 intro h;cases sj h
 exact kq (hr33 (fun _=>0))
 refine lrc ?_ ?_
 intro v e;subst e;cases sj h;rfl
 intro x41 a40 e;subst e
 dsimp only at h
 conv=>lhs;whnf
 revert h
 exact rz
 exact rz
end Go.Proofs.Ytmaklniljnbokaa
end

section
namespace Go.Proofs.Ytmaklniljnbokaa
set_option linter.unusedVariables false
set_option linter.unusedSimpArgs false
set_option maxRecDepth 100000
set_option maxHeartbeats 4000000

theorem ok_law24_ReportShows {n:Nat} ⦃v0_u:UnitS⦄ ⦃v1_model:Int⦄ ⦃v2_v:S_api_Verdict⦄ ⦃r:Bool⦄:m_law24_ReportShows n v0_u v1_model v2_v=some r→CN n 3 [AV.agg [iA (v0_u.mod),AV.sl 1 (List.map encI (v0_u.init)),AV.sl 1 (List.map encI (v0_u.regs)),AV.sl 1 (List.map encThr (v0_u.code))],iA v1_model,AV.agg [iA v2_v.f_Outcome,AV.sl 1 (List.map encI v2_v.f_Prefix),AV.sl 1 (List.map encI v2_v.f_Cycle),AV.sl 3 (List.map c_api_Result v2_v.f_Results),iA v2_v.f_States,iA v2_v.f_Edges]] []=some (bA r,[]):=by
 intro h;rcases n with _|n;cases h
 rw [m_law24_ReportShows] at h
 refine callN_eq' Try.func3 (by rfl) rfl rfl (Nat.le_of_ble_eq_true rfl) ?_
 intro call hc;conv=>lhs;whnf
 revert h
 refine ca hc (fun _ h=>ok_law24_light h) ?_;intro y1
 refine br ?_ ?_
 refine ca hc (fun _ h=>ok_report_Right h) ?_;intro y4
 refine ca hc (fun _ h=>ok_ref24_Right h) ?_;intro y6
 refine br ?_ ?_
 refine ca hc (fun _ h=>ok_report_Show h) ?_;intro y9
 refine ca hc (fun _ h=>ok_ref24_Show h) ?_;intro y11
 refine br ?_ ?_
 refine ca hc (fun _ h=>ok_law24_known h) ?_;intro y14
 exact rz
 exact rz
 exact rz
 refine ca hc (fun _ h=>ok_law24_known h) ?_;intro y16
 exact rz
end Go.Proofs.Ytmaklniljnbokaa
end

