/- Parts of the proofs: what they lean on. Conditions: none. -/
import Derived.Test.YtmnnkeejgkhgpaaCodeValuesP1
section
namespace Go.Proofs.Ytmnnkeejgkhgpaa
set_option linter.unusedVariables false
set_option linter.unusedSimpArgs false
set_option maxRecDepth 100000

set_option maxHeartbeats 4000000 in
theorem ok_code_Value (n : Nat) : ∀ (v0_l : (List OpS)) (v1_mod : Int) (v2_own : (List Int)) (v3_all : (List (List Int))) (v4_mem : (List Int)) (r : (Int × Bool)), m_code_Value n v0_l v1_mod v2_own v3_all v4_mem = some r → callN Try.prog HH XT n 17 [AV.sl 3 (List.map encOp (v0_l)), AV.int .i64 (v1_mod), AV.sl 1 (List.map encI (v2_own)), AV.sl 1 (List.map encRow (v3_all)), AV.sl 1 (List.map encI (v4_mem))] [] = some (AV.tup [AV.int .i64 ((r).1), AV.bool ((r).2)], []) := by
  cases n with
  | zero => intro v0_l v1_mod v2_own v3_all v4_mem r hm; exact absurd hm (by intro h; cases h)
  | succ n =>
    intro v0_l v1_mod v2_own v3_all v4_mem r hm
    rw [m_code_Value] at hm
    refine callN_eq' Try.func17 (by rfl) rfl rfl (Nat.le_of_ble_eq_true rfl) ?_
    intro call hc
    conv => lhs; whnf
    refine bif_or2 hm ?_ ?_ <;> clear hm <;> intro hc1 hm
    · simp only [hc1, ls]
      conv => lhs; whnf
      have hq := Option.some.inj hm; clear hm; subst hq
      try simp only [ls]
      exact fq (y := some (AV.tup [AV.int .i64 (0), AV.bool (false)], []))
    · simp only [hc1, ls]
      conv => lhs; whnf
      refine bif_or2 hm ?_ ?_ <;> clear hm <;> intro hc2 hm
      · simp only [hc2, ls]
        conv => lhs; whnf
        have hq := Option.some.inj hm; clear hm; subst hq
        try simp only [ls]
        exact fq (y := some (AV.tup [AV.int .i64 (0), AV.bool (false)], []))
      · simp only [hc2, ls]
        conv => lhs; whnf
        refine bind_some2 hm ?_; clear hm; intro y3 hy3 hm
        have hk4 : call false 36 [AV.int .i64 (v1_mod), AV.sl 1 [[AV.sl 1 (List.map encI (v2_own))], [AV.sl 1 (List.map encI (v4_mem))]]] [] = some (AV.bool (y3), []) := (hc _ _ _).trans (ok_code_below n v1_mod ([v2_own, v4_mem] : List (List Int)) y3 hy3)
        try simp only [List.drop_zero, ls]
        first | simp only [hk4] | rewrite [hk4]
        try simp only [ls]
        conv => lhs; whnf
        refine bif_or2 hm ?_ ?_ <;> clear hm <;> intro hc5 hm
        · simp only [hc5, ls]
          conv => lhs; whnf
          refine bind_some2 hm ?_; clear hm; intro y6 hy6 hm
          have hk7 : call false 36 [AV.int .i64 (v1_mod), AV.sl 1 (List.map encRow (v3_all))] [] = some (AV.bool (y6), []) := (hc _ _ _).trans (ok_code_below n v1_mod v3_all y6 hy6)
          try simp only [List.drop_zero, ls]
          first | simp only [hk7] | rewrite [hk7]
          try simp only [ls]
          conv => lhs; whnf
          refine bif_or2 hm ?_ ?_ <;> clear hm <;> intro hc8 hm
          · simp only [hc8, ls]
            conv => lhs; whnf
            refine bind_some2 hm ?_; clear hm; intro o18 ho18 hm
            refine rounds_sim (σ := (Int × (List Int))) (τ := (List Int)) (ν := (Int × Bool)) 0 (fun (s9, s10) a12 => stOf 150 [(0, AV.sl 3 (List.map encOp (v0_l))), (1, AV.int .i64 (v1_mod)), (2, AV.sl 1 (List.map encI (v2_own))), (3, AV.sl 1 (List.map encRow (v3_all))), (4, AV.sl 1 (List.map encI (v4_mem))), (12, AV.row 0 (List.length (s10))), (42, AV.sl 1 (List.map encRow (v3_all))), (43, AV.int .i64 ((((v3_all).length : Nat) : Int))), (44, AV.int .i64 (s9))]) (fun (s9, s10) a12 => [Ob.row 3 1 (List.map encI (s10))]) (fun x25 a24 => stOf 150 [(0, AV.sl 3 (List.map encOp (v0_l))), (1, AV.int .i64 (v1_mod)), (2, AV.sl 1 (List.map encI (v2_own))), (3, AV.sl 1 (List.map encRow (v3_all))), (4, AV.sl 1 (List.map encI (v4_mem))), (12, AV.row 0 (List.length (x25)))]) (fun x25 a24 => [Ob.row 3 1 (List.map encI (x25))]) (fun v => (AV.tup [AV.int .i64 ((v).1), AV.bool ((v).2)], [])) (fun k s => code_Value_L0 n v3_all k ((s).1) ((s).2)) (fun s => rfl) o18 ?_ n (0, ([] : List Int)) (fun _ => 0) _ _ ho18 ?_ (by first | rfl | (simp only [ls, List.map_append, List.map_cons, List.map_nil, List.append_nil, List.length_set, length_copyL] <;> rfl)) (by first | rfl | (simp only [ls, List.map_append, List.map_cons, List.map_nil, List.append_nil, List.length_set, length_copyL] <;> rfl))
            · intro k11 ss a12 K13 cont14 hK15 hcont16 hm hr17
              obtain ⟨s9, s10⟩ := ss
              replace hm : code_Value_L0 n v3_all (k11 + 1) s9 s10 = some o18 := hm
              rw [code_Value_L0] at hm
              conv => lhs; whnf
              refine bif_or2 hm ?_ ?_ <;> clear hm <;> intro hc19 hm
              · simp only [hc19, ls]
                conv => lhs; whnf
                refine bind_some2 hm ?_; clear hm; intro x20 hx20 hm
                refine bif_pos (by first | exact idx_in hx20 | exact idx_in' hx20) ?_
                simp only [idx_nth (f := encRow) hx20, ls]
                conv => lhs; whnf
                refine chk_some2 hm ?_; clear hm; intro hc23 hm
                refine bif_pos (app_row hc23 (by first | rfl | simp only [List.length_map]) (by first | rfl | simp only [List.length_map]) (by first | rfl | simp only [List.length_map, take_map_len]) (by kernel_rfl)) ?_
                try simp only [lt]
                have hp21 : (List.map encI (s10) : List (List AV)) ++ [[AV.int .i64 ((((x20).length : Nat) : Int))]] = List.map encI (s10 ++ ([(((x20).length : Nat) : Int)] : List Int)) := by first | rfl | (rw [List.map_append]; rfl) | (rw [List.map_append]; done) | (simp only [List.map_append, List.map_cons, List.map_nil, List.nil_append, encI] <;> rfl)
                have hl22 : List.length (List.map encI (s10) : List (List AV)) + List.length ([[AV.int .i64 ((((x20).length : Nat) : Int))]] : List (List AV)) = List.length (s10 ++ ([(((x20).length : Nat) : Int)] : List Int)) := by simp only [List.length_map, List.length_append] <;> rfl
                have hl22_b : List.length s10 + List.length ([[AV.int .i64 ((((x20).length : Nat) : Int))]] : List (List AV)) = List.length (s10 ++ ([(((x20).length : Nat) : Int)] : List Int)) := by simp only [List.length_map, List.length_append] <;> rfl
                have hl22_c : List.length s10 + List.length ([(((x20).length : Nat) : Int)] : List Int) = List.length (s10 ++ ([(((x20).length : Nat) : Int)] : List Int)) := by simp only [List.length_map, List.length_append] <;> rfl
                first | simp only [hp21, hl22] | (simp only [List.length_map, take_map_len]; simp only [hp21, hl22_b, hl22_c])
                try simp only [ls]
                conv => lhs; whnf
                exact cq (hcont16 (IntKind.i64.wrap (s9 + 1), (s10 ++ ([(((x20).length : Nat) : Int)] : List Int))) (fun _ => 0) hm)
              · simp only [hc19, ls]
                conv => lhs; whnf
                have hq := Option.some.inj hm; clear hm; subst hq
                exact kq (hr17 (fun _ => 0))
            · cases o18 with
              | ret v =>
                have hq := Option.some.inj hm; clear hm; subst hq
                rfl
              | out t =>
                obtain ⟨x25, rfl⟩ : ∃ x, x = t := ⟨_, rfl⟩
                intro a24
                dsimp only at hm
                conv => lhs; whnf
                refine bind_some2 hm ?_; clear hm; intro y26 hy26 hm
                have hk27 : call false 21 [AV.sl 3 (List.map encOp (v0_l)), AV.sl 1 (List.map encI (x25)), AV.int .i64 ((((v2_own).length : Nat) : Int)), AV.int .i64 ((((v4_mem).length : Nat) : Int))] [] = some (AV.bool (y26), []) := (hc _ _ _).trans (ok_code_Right n v0_l x25 (((v2_own).length : Nat) : Int) (((v4_mem).length : Nat) : Int) y26 hy26)
                try simp only [List.drop_zero, ls]
                first | simp only [hk27] | rewrite [hk27]
                try simp only [ls]
                conv => lhs; whnf
                refine bif_or2 hm ?_ ?_ <;> clear hm <;> intro hc28 hm
                · simp only [hc28, ls]
                  conv => lhs; whnf
                  refine bind_some2 hm ?_; clear hm; intro o38 ho38 hm
                  refine rounds_sim (σ := (Int × (List Int))) (τ := (List Int)) (ν := (Int × Bool)) 2 (fun (s29, s30) a32 => stOf 150 [(1, AV.int .i64 (v1_mod)), (2, AV.sl 1 (List.map encI (v2_own))), (3, AV.sl 1 (List.map encRow (v3_all))), (4, AV.sl 1 (List.map encI (v4_mem))), (15, AV.stk 1 (a32 1) (List.length (s30))), (62, AV.sl 3 (List.map encOp (v0_l))), (63, AV.int .i64 ((((v0_l).length : Nat) : Int))), (64, AV.int .i64 (s29))]) (fun (s29, s30) a32 => [Ob.row 3 1 (List.map encI (x25)), Ob.stk (a32 1) 3 1 (List.map encI (s30))]) (fun x158 a157 => stOf 150 [(15, AV.stk 1 (a157 1) (List.length (x158)))]) (fun x158 a157 => [Ob.row 3 1 (List.map encI (x25)), Ob.stk (a157 1) 3 1 (List.map encI (x158))]) (fun v => (AV.tup [AV.int .i64 ((v).1), AV.bool ((v).2)], [])) (fun k s => code_Value_L1 n v0_l v1_mod v2_own v3_all v4_mem k ((s).1) ((s).2)) (fun s => rfl) o38 ?_ n (0, ([] : List Int)) (fun j => (bif Nat.beq j 1 then 0 else 0)) _ _ ho38 ?_ (by first | rfl | (simp only [ls, List.map_append, List.map_cons, List.map_nil, List.append_nil, List.length_set, length_copyL] <;> rfl)) (by first | rfl | (simp only [ls, List.map_append, List.map_cons, List.map_nil, List.append_nil, List.length_set, length_copyL] <;> rfl))
                  · intro k31 ss a32 K33 cont34 hK35 hcont36 hm hr37
                    obtain ⟨s29, s30⟩ := ss
                    replace hm : code_Value_L1 n v0_l v1_mod v2_own v3_all v4_mem (k31 + 1) s29 s30 = some o38 := hm
                    rw [code_Value_L1] at hm
                    conv => lhs; whnf
                    refine bif_or2 hm ?_ ?_ <;> clear hm <;> intro hc39 hm
                    · simp only [hc39, ls]
                      conv => lhs; whnf
                      refine bind_some2 hm ?_; clear hm; intro x40 hx40 hm
                      refine bif_pos (by first | exact idx_in hx40 | exact idx_in' hx40) ?_
                      simp only [idx_nth (f := encOp) hx40, ls]
                      conv => lhs; whnf
                      refine bif_or2 hm ?_ ?_ <;> clear hm <;> intro hc41 hm
                      · simp only [hc41, ls]
                        conv => lhs; whnf
                        refine bif_or2 hm ?_ ?_ <;> clear hm <;> intro hc42 hm
                        · cases hm
                        · simp only [hc42, ls]
                          conv => lhs; whnf
                          refine chk_some2 hm ?_; clear hm; intro hc45 hm
                          try simp only [dec_self]
                          conv => lhs; whnf
                          refine bif_pos (app_row hc45 (by first | rfl | simp only [List.length_map]) (by first | rfl | simp only [List.length_map]) (by first | rfl | simp only [List.length_map, take_map_len]) (by kernel_rfl)) ?_
                          try simp only [lt]
                          have hp43 : (List.map encI (s30) : List (List AV)) ++ [[AV.int .i64 ((Int.tmod x40.n v1_mod))]] = List.map encI (s30 ++ ([(Int.tmod x40.n v1_mod)] : List Int)) := by first | rfl | (rw [List.map_append]; rfl) | (rw [List.map_append]; done) | (simp only [List.map_append, List.map_cons, List.map_nil, List.nil_append, encI] <;> rfl)
                          have hl44 : List.length (List.map encI (s30) : List (List AV)) + List.length ([[AV.int .i64 ((Int.tmod x40.n v1_mod))]] : List (List AV)) = List.length (s30 ++ ([(Int.tmod x40.n v1_mod)] : List Int)) := by simp only [List.length_map, List.length_append] <;> rfl
                          have hl44_b : List.length s30 + List.length ([[AV.int .i64 ((Int.tmod x40.n v1_mod))]] : List (List AV)) = List.length (s30 ++ ([(Int.tmod x40.n v1_mod)] : List Int)) := by simp only [List.length_map, List.length_append] <;> rfl
                          have hl44_c : List.length s30 + List.length ([(Int.tmod x40.n v1_mod)] : List Int) = List.length (s30 ++ ([(Int.tmod x40.n v1_mod)] : List Int)) := by simp only [List.length_map, List.length_append] <;> rfl
                          first | simp only [hp43, hl44] | (simp only [List.length_map, take_map_len]; simp only [hp43, hl44_b, hl44_c])
                          try simp only [ls]
                          conv => lhs; whnf
                          exact cq (hcont36 (IntKind.i64.wrap (s29 + 1), (s30 ++ ([(Int.tmod x40.n v1_mod)] : List Int))) (fun j => (bif Nat.beq j 1 then ((a32 1) + 1) else 0)) hm)
                      · simp only [hc41, ls]
                        conv => lhs; whnf
                        refine bif_or2 hm ?_ ?_ <;> clear hm <;> intro hc46 hm
                        · simp only [hc46, ls]
                          conv => lhs; whnf
                          refine bind_some2 hm ?_; clear hm; intro x47 hx47 hm
                          refine bif_pos (by first | exact idx_in hx47 | exact idx_in' hx47) ?_
                          simp only [idx_nth (f := encI) hx47, ls]
                          conv => lhs; whnf
                          refine chk_some2 hm ?_; clear hm; intro hc50 hm
                          try simp only [dec_self]
                          conv => lhs; whnf
                          refine bif_pos (app_row hc50 (by first | rfl | simp only [List.length_map]) (by first | rfl | simp only [List.length_map]) (by first | rfl | simp only [List.length_map, take_map_len]) (by kernel_rfl)) ?_
                          try simp only [lt]
                          have hp48 : (List.map encI (s30) : List (List AV)) ++ [[AV.int .i64 (x47)]] = List.map encI (s30 ++ ([x47] : List Int)) := by first | rfl | (rw [List.map_append]; rfl) | (rw [List.map_append]; done) | (simp only [List.map_append, List.map_cons, List.map_nil, List.nil_append, encI] <;> rfl)
                          have hl49 : List.length (List.map encI (s30) : List (List AV)) + List.length ([[AV.int .i64 (x47)]] : List (List AV)) = List.length (s30 ++ ([x47] : List Int)) := by simp only [List.length_map, List.length_append] <;> rfl
                          have hl49_b : List.length s30 + List.length ([[AV.int .i64 (x47)]] : List (List AV)) = List.length (s30 ++ ([x47] : List Int)) := by simp only [List.length_map, List.length_append] <;> rfl
                          have hl49_c : List.length s30 + List.length ([x47] : List Int) = List.length (s30 ++ ([x47] : List Int)) := by simp only [List.length_map, List.length_append] <;> rfl
                          first | simp only [hp48, hl49] | (simp only [List.length_map, take_map_len]; simp only [hp48, hl49_b, hl49_c])
                          try simp only [ls]
                          conv => lhs; whnf
                          exact cq (hcont36 (IntKind.i64.wrap (s29 + 1), (s30 ++ ([x47] : List Int))) (fun j => (bif Nat.beq j 1 then ((a32 1) + 1) else 0)) hm)
                        · simp only [hc46, ls]
                          conv => lhs; whnf
                          refine bif_or2 hm ?_ ?_ <;> clear hm <;> intro hc51 hm
                          · simp only [hc51, ls]
                            conv => lhs; whnf
                            refine bind_some2 hm ?_; clear hm; intro x52 hx52 hm
                            refine bif_pos (by first | exact idx_in hx52 | exact idx_in' hx52) ?_
                            simp only [idx_nth (f := encI) hx52, ls]
                            conv => lhs; whnf
                            refine chk_some2 hm ?_; clear hm; intro hc55 hm
                            try simp only [dec_self]
                            conv => lhs; whnf
                            refine bif_pos (app_row hc55 (by first | rfl | simp only [List.length_map]) (by first | rfl | simp only [List.length_map]) (by first | rfl | simp only [List.length_map, take_map_len]) (by kernel_rfl)) ?_
                            try simp only [lt]
                            have hp53 : (List.map encI (s30) : List (List AV)) ++ [[AV.int .i64 (x52)]] = List.map encI (s30 ++ ([x52] : List Int)) := by first | rfl | (rw [List.map_append]; rfl) | (rw [List.map_append]; done) | (simp only [List.map_append, List.map_cons, List.map_nil, List.nil_append, encI] <;> rfl)
                            have hl54 : List.length (List.map encI (s30) : List (List AV)) + List.length ([[AV.int .i64 (x52)]] : List (List AV)) = List.length (s30 ++ ([x52] : List Int)) := by simp only [List.length_map, List.length_append] <;> rfl
                            have hl54_b : List.length s30 + List.length ([[AV.int .i64 (x52)]] : List (List AV)) = List.length (s30 ++ ([x52] : List Int)) := by simp only [List.length_map, List.length_append] <;> rfl
                            have hl54_c : List.length s30 + List.length ([x52] : List Int) = List.length (s30 ++ ([x52] : List Int)) := by simp only [List.length_map, List.length_append] <;> rfl
                            first | simp only [hp53, hl54] | (simp only [List.length_map, take_map_len]; simp only [hp53, hl54_b, hl54_c])
                            try simp only [ls]
                            conv => lhs; whnf
                            exact cq (hcont36 (IntKind.i64.wrap (s29 + 1), (s30 ++ ([x52] : List Int))) (fun j => (bif Nat.beq j 1 then ((a32 1) + 1) else 0)) hm)
                          · simp only [hc51, ls]
                            conv => lhs; whnf
                            refine bif_or2 hm ?_ ?_ <;> clear hm <;> intro hc56 hm
                            · simp only [hc56, ls]
                              conv => lhs; whnf
                              refine bind_some2 hm ?_; clear hm; intro x57 hx57 hm
                              refine bif_pos (by first | exact idx_in hx57 | exact idx_in' hx57) ?_
                              simp only [idx_nth (f := encRow) hx57, ls]
                              conv => lhs; whnf
                              refine bind_some2 hm ?_; clear hm; intro x58 hx58 hm
                              refine bif_pos (by first | exact idx_in hx58 | exact idx_in' hx58) ?_
                              simp only [idx_nth (f := encI) hx58, ls]
                              conv => lhs; whnf
                              refine chk_some2 hm ?_; clear hm; intro hc61 hm
                              try simp only [dec_self]
                              conv => lhs; whnf
                              refine bif_pos (app_row hc61 (by first | rfl | simp only [List.length_map]) (by first | rfl | simp only [List.length_map]) (by first | rfl | simp only [List.length_map, take_map_len]) (by kernel_rfl)) ?_
                              try simp only [lt]
                              have hp59 : (List.map encI (s30) : List (List AV)) ++ [[AV.int .i64 (x58)]] = List.map encI (s30 ++ ([x58] : List Int)) := by first | rfl | (rw [List.map_append]; rfl) | (rw [List.map_append]; done) | (simp only [List.map_append, List.map_cons, List.map_nil, List.nil_append, encI] <;> rfl)
                              have hl60 : List.length (List.map encI (s30) : List (List AV)) + List.length ([[AV.int .i64 (x58)]] : List (List AV)) = List.length (s30 ++ ([x58] : List Int)) := by simp only [List.length_map, List.length_append] <;> rfl
                              have hl60_b : List.length s30 + List.length ([[AV.int .i64 (x58)]] : List (List AV)) = List.length (s30 ++ ([x58] : List Int)) := by simp only [List.length_map, List.length_append] <;> rfl
                              have hl60_c : List.length s30 + List.length ([x58] : List Int) = List.length (s30 ++ ([x58] : List Int)) := by simp only [List.length_map, List.length_append] <;> rfl
                              first | simp only [hp59, hl60] | (simp only [List.length_map, take_map_len]; simp only [hp59, hl60_b, hl60_c])
                              try simp only [ls]
                              conv => lhs; whnf
                              exact cq (hcont36 (IntKind.i64.wrap (s29 + 1), (s30 ++ ([x58] : List Int))) (fun j => (bif Nat.beq j 1 then ((a32 1) + 1) else 0)) hm)
                            · simp only [hc56, ls]
                              conv => lhs; whnf
                              refine bind_some2 hm ?_; clear hm; intro y62 hy62 hm
                              cases y62 with
                              | c0 y64 =>
                                cases hm
                              | c1 y65 =>
                                dsimp only at hm
                                have hk63 : call false 37 [AV.int .i64 (x40.op)] [] = some (AV.tup [AV.agg [AV.int .i64 ((y65).1), AV.func 59 [] []], AV.bool ((y65).2)], []) := (hc _ _ _).trans (ok_code_of n x40.op (.c1 y65) hy62)
                                try simp only [List.drop_zero, ls]
                                first | simp only [hk63] | rewrite [hk63]
                                try simp only [ls]
                                conv => lhs; whnf
                                refine bind_some2 hm ?_; clear hm; intro x77 hx77 hm
                                try simp only [dec_self]
                                conv => lhs; whnf
                                try simp only [ls]
                                refine bif_pos (by first | exact idx_in hx77 | exact idx_in' hx77 | exact own_in hx77 | exact own_in' hx77 | (have q := idx_in hx77; simp only [List.length_set] at q; exact q) | (have q := own_in' hx77; simp only [List.length_set, Nat.zero_add] at q ⊢; exact q)) ?_
                                conv => lhs; whnf
                                try simp only [idx_nth (f := encI) hx77, dec_self, ls]
                                conv => lhs; whnf
                                refine bind_some2 hm ?_; clear hm; intro x78 hx78 hm
                                try simp only [dec_self]
                                conv => lhs; whnf
                                try simp only [ls]
                                refine bif_pos (by first | exact idx_in hx78 | exact idx_in' hx78 | exact own_in hx78 | exact own_in' hx78 | (have q := idx_in hx78; simp only [List.length_set] at q; exact q) | (have q := own_in' hx78; simp only [List.length_set, Nat.zero_add] at q ⊢; exact q)) ?_
                                conv => lhs; whnf
                                try simp only [idx_nth (f := encI) hx78, dec_self, ls]
                                conv => lhs; whnf
                                refine bind_some2 hm ?_; clear hm; intro y79 hy79 hm
                                have hk80 : call false 59 [AV.int .i64 (x77), AV.int .i64 (x78), AV.int .i64 (v1_mod)] [] = some (AV.int .i64 (y79), []) := (hc _ _ _).trans (ok_code_of_10 n x77 x78 v1_mod y79 hy79)
                                try simp only [List.drop_zero, ls]
                                first | simp only [hk80] | rewrite [hk80]
                                try simp only [ls]
                                conv => lhs; whnf
                                refine bind_some2 hm ?_; clear hm; intro x81 hx81 hm
                                try simp only [dec_self]
                                conv => lhs; whnf
                                try simp only [ls]
                                refine bif_pos (by first | exact idx_in hx81 | exact idx_in' hx81 | exact own_in hx81 | exact own_in' hx81 | (have q := idx_in hx81; simp only [List.length_set] at q; exact q) | (have q := own_in' hx81; simp only [List.length_set, Nat.zero_add] at q ⊢; exact q)) ?_
                                conv => lhs; whnf
                                try simp only [idx_nth (f := encI) hx81, dec_self, ls]
                                conv => lhs; whnf
                                have hs82 : setNth (List.map encI s30) (IntKind.i64.wrap ((IntKind.i64.wrap ((IntKind.i64.wrap ((((s30).length : Nat) : Int) - 1)) + 1)) - ((y65).1))).toNat [AV.int .i64 (y79)] = List.map encI (List.set s30 (IntKind.i64.wrap ((IntKind.i64.wrap ((IntKind.i64.wrap ((((s30).length : Nat) : Int) - 1)) + 1)) - ((y65).1))).toNat y79) := by rw [setNth_eq, List.map_set]; rfl
                                have hs82_u : setNth (List.map encI s30) (IntKind.i64.wrap ((IntKind.i64.wrap ((IntKind.i64.wrap ((((s30).length : Nat) : Int) - 1)) + 1)) - ((y65).1))).toNat (updL (encI x81) 0 [AV.int .i64 (y79)]) = List.map encI (List.set s30 (IntKind.i64.wrap ((IntKind.i64.wrap ((IntKind.i64.wrap ((((s30).length : Nat) : Int) - 1)) + 1)) - ((y65).1))).toNat y79) := by rw [setNth_eq, List.map_set]; rfl
                                try simp only [idx_nth (f := encI) hx81, dec_self]
                                conv => lhs; whnf
                                try simp only [hs82, hs82_u, dec_self]
                                conv => lhs; whnf
                                refine chk_some2 hm ?_; clear hm; intro hc84 hm
                                try simp only [dec_self]
                                conv => lhs; whnf
                                try simp only [ls]
                                first | refine bif_pos hc84 ?_ | (refine bif_pos (by have q := hc84; simp only [List.length_set] at q; exact q) ?_)
                                have hs83 : List.take ((IntKind.i64.wrap ((IntKind.i64.wrap ((IntKind.i64.wrap ((IntKind.i64.wrap ((((s30).length : Nat) : Int) - 1)) + 1)) - ((y65).1))) + 1)).toNat) (List.map encI (List.set s30 (IntKind.i64.wrap ((IntKind.i64.wrap ((IntKind.i64.wrap ((((s30).length : Nat) : Int) - 1)) + 1)) - ((y65).1))).toNat y79)) = List.map encI (List.take ((IntKind.i64.wrap ((IntKind.i64.wrap ((IntKind.i64.wrap ((IntKind.i64.wrap ((((s30).length : Nat) : Int) - 1)) + 1)) - ((y65).1))) + 1)).toNat) (List.set s30 (IntKind.i64.wrap ((IntKind.i64.wrap ((IntKind.i64.wrap ((((s30).length : Nat) : Int) - 1)) + 1)) - ((y65).1))).toNat y79)) := by rw [List.map_take]
                                have hs83_l : List.length (List.take ((IntKind.i64.wrap ((IntKind.i64.wrap ((IntKind.i64.wrap ((IntKind.i64.wrap ((((s30).length : Nat) : Int) - 1)) + 1)) - ((y65).1))) + 1)).toNat) (List.set s30 (IntKind.i64.wrap ((IntKind.i64.wrap ((IntKind.i64.wrap ((((s30).length : Nat) : Int) - 1)) + 1)) - ((y65).1))).toNat y79)) = (IntKind.i64.wrap ((IntKind.i64.wrap ((IntKind.i64.wrap ((IntKind.i64.wrap ((((s30).length : Nat) : Int) - 1)) + 1)) - ((y65).1))) + 1)).toNat := by simp only [List.length_take]; exact Nat.min_eq_left (cut_le hc84)
                                conv => lhs; whnf
                                try simp only [dec_self, hs83]
                                conv => lhs; whnf
                                try simp only [hs83]
                                have hs83_s : ∀ q, AV.stk 1 q ((IntKind.i64.wrap ((IntKind.i64.wrap ((IntKind.i64.wrap ((IntKind.i64.wrap ((((s30).length : Nat) : Int) - 1)) + 1)) - ((y65).1))) + 1)).toNat) = AV.stk 1 q (List.length (List.take ((IntKind.i64.wrap ((IntKind.i64.wrap ((IntKind.i64.wrap ((IntKind.i64.wrap ((((s30).length : Nat) : Int) - 1)) + 1)) - ((y65).1))) + 1)).toNat) (List.set s30 (IntKind.i64.wrap ((IntKind.i64.wrap ((IntKind.i64.wrap ((((s30).length : Nat) : Int) - 1)) + 1)) - ((y65).1))).toNat y79))) := fun q => by rw [hs83_l]
                                try simp only [hs83_s]
                                conv => lhs; whnf
                                exact cq (hcont36 (IntKind.i64.wrap (s29 + 1), (List.take ((IntKind.i64.wrap ((IntKind.i64.wrap ((IntKind.i64.wrap ((IntKind.i64.wrap ((((s30).length : Nat) : Int) - 1)) + 1)) - ((y65).1))) + 1)).toNat) (List.set s30 (IntKind.i64.wrap ((IntKind.i64.wrap ((IntKind.i64.wrap ((((s30).length : Nat) : Int) - 1)) + 1)) - ((y65).1))).toNat y79))) (fun j => (bif Nat.beq j 1 then ((a32 1) + 1) else 0)) hm)
                              | c2 y66 =>
                                dsimp only at hm
                                have hk63 : call false 37 [AV.int .i64 (x40.op)] [] = some (AV.tup [AV.agg [AV.int .i64 ((y66).1), AV.func 58 [] []], AV.bool ((y66).2)], []) := (hc _ _ _).trans (ok_code_of n x40.op (.c2 y66) hy62)
                                try simp only [List.drop_zero, ls]
                                first | simp only [hk63] | rewrite [hk63]
                                try simp only [ls]
                                conv => lhs; whnf
                                refine bind_some2 hm ?_; clear hm; intro x85 hx85 hm
                                try simp only [dec_self]
                                conv => lhs; whnf
                                try simp only [ls]
                                refine bif_pos (by first | exact idx_in hx85 | exact idx_in' hx85 | exact own_in hx85 | exact own_in' hx85 | (have q := idx_in hx85; simp only [List.length_set] at q; exact q) | (have q := own_in' hx85; simp only [List.length_set, Nat.zero_add] at q ⊢; exact q)) ?_
                                conv => lhs; whnf
                                try simp only [idx_nth (f := encI) hx85, dec_self, ls]
                                conv => lhs; whnf
                                refine bind_some2 hm ?_; clear hm; intro x86 hx86 hm
                                try simp only [dec_self]
                                conv => lhs; whnf
                                try simp only [ls]
                                refine bif_pos (by first | exact idx_in hx86 | exact idx_in' hx86 | exact own_in hx86 | exact own_in' hx86 | (have q := idx_in hx86; simp only [List.length_set] at q; exact q) | (have q := own_in' hx86; simp only [List.length_set, Nat.zero_add] at q ⊢; exact q)) ?_
                                conv => lhs; whnf
                                try simp only [idx_nth (f := encI) hx86, dec_self, ls]
                                conv => lhs; whnf
                                refine bind_some2 hm ?_; clear hm; intro y87 hy87 hm
                                have hk88 : call false 58 [AV.int .i64 (x85), AV.int .i64 (x86), AV.int .i64 (v1_mod)] [] = some (AV.int .i64 (y87), []) := (hc _ _ _).trans (ok_code_of_9 n x85 x86 v1_mod y87 hy87)
                                try simp only [List.drop_zero, ls]
                                first | simp only [hk88] | rewrite [hk88]
                                try simp only [ls]
                                conv => lhs; whnf
                                refine bind_some2 hm ?_; clear hm; intro x89 hx89 hm
                                try simp only [dec_self]
                                conv => lhs; whnf
                                try simp only [ls]
                                refine bif_pos (by first | exact idx_in hx89 | exact idx_in' hx89 | exact own_in hx89 | exact own_in' hx89 | (have q := idx_in hx89; simp only [List.length_set] at q; exact q) | (have q := own_in' hx89; simp only [List.length_set, Nat.zero_add] at q ⊢; exact q)) ?_
                                conv => lhs; whnf
                                try simp only [idx_nth (f := encI) hx89, dec_self, ls]
                                conv => lhs; whnf
                                have hs90 : setNth (List.map encI s30) (IntKind.i64.wrap ((IntKind.i64.wrap ((IntKind.i64.wrap ((((s30).length : Nat) : Int) - 1)) + 1)) - ((y66).1))).toNat [AV.int .i64 (y87)] = List.map encI (List.set s30 (IntKind.i64.wrap ((IntKind.i64.wrap ((IntKind.i64.wrap ((((s30).length : Nat) : Int) - 1)) + 1)) - ((y66).1))).toNat y87) := by rw [setNth_eq, List.map_set]; rfl
                                have hs90_u : setNth (List.map encI s30) (IntKind.i64.wrap ((IntKind.i64.wrap ((IntKind.i64.wrap ((((s30).length : Nat) : Int) - 1)) + 1)) - ((y66).1))).toNat (updL (encI x89) 0 [AV.int .i64 (y87)]) = List.map encI (List.set s30 (IntKind.i64.wrap ((IntKind.i64.wrap ((IntKind.i64.wrap ((((s30).length : Nat) : Int) - 1)) + 1)) - ((y66).1))).toNat y87) := by rw [setNth_eq, List.map_set]; rfl
                                try simp only [idx_nth (f := encI) hx89, dec_self]
                                conv => lhs; whnf
                                try simp only [hs90, hs90_u, dec_self]
                                conv => lhs; whnf
                                refine chk_some2 hm ?_; clear hm; intro hc92 hm
                                try simp only [dec_self]
                                conv => lhs; whnf
                                try simp only [ls]
                                first | refine bif_pos hc92 ?_ | (refine bif_pos (by have q := hc92; simp only [List.length_set] at q; exact q) ?_)
                                have hs91 : List.take ((IntKind.i64.wrap ((IntKind.i64.wrap ((IntKind.i64.wrap ((IntKind.i64.wrap ((((s30).length : Nat) : Int) - 1)) + 1)) - ((y66).1))) + 1)).toNat) (List.map encI (List.set s30 (IntKind.i64.wrap ((IntKind.i64.wrap ((IntKind.i64.wrap ((((s30).length : Nat) : Int) - 1)) + 1)) - ((y66).1))).toNat y87)) = List.map encI (List.take ((IntKind.i64.wrap ((IntKind.i64.wrap ((IntKind.i64.wrap ((IntKind.i64.wrap ((((s30).length : Nat) : Int) - 1)) + 1)) - ((y66).1))) + 1)).toNat) (List.set s30 (IntKind.i64.wrap ((IntKind.i64.wrap ((IntKind.i64.wrap ((((s30).length : Nat) : Int) - 1)) + 1)) - ((y66).1))).toNat y87)) := by rw [List.map_take]
                                have hs91_l : List.length (List.take ((IntKind.i64.wrap ((IntKind.i64.wrap ((IntKind.i64.wrap ((IntKind.i64.wrap ((((s30).length : Nat) : Int) - 1)) + 1)) - ((y66).1))) + 1)).toNat) (List.set s30 (IntKind.i64.wrap ((IntKind.i64.wrap ((IntKind.i64.wrap ((((s30).length : Nat) : Int) - 1)) + 1)) - ((y66).1))).toNat y87)) = (IntKind.i64.wrap ((IntKind.i64.wrap ((IntKind.i64.wrap ((IntKind.i64.wrap ((((s30).length : Nat) : Int) - 1)) + 1)) - ((y66).1))) + 1)).toNat := by simp only [List.length_take]; exact Nat.min_eq_left (cut_le hc92)
                                conv => lhs; whnf
                                try simp only [dec_self, hs91]
                                conv => lhs; whnf
                                try simp only [hs91]
                                have hs91_s : ∀ q, AV.stk 1 q ((IntKind.i64.wrap ((IntKind.i64.wrap ((IntKind.i64.wrap ((IntKind.i64.wrap ((((s30).length : Nat) : Int) - 1)) + 1)) - ((y66).1))) + 1)).toNat) = AV.stk 1 q (List.length (List.take ((IntKind.i64.wrap ((IntKind.i64.wrap ((IntKind.i64.wrap ((IntKind.i64.wrap ((((s30).length : Nat) : Int) - 1)) + 1)) - ((y66).1))) + 1)).toNat) (List.set s30 (IntKind.i64.wrap ((IntKind.i64.wrap ((IntKind.i64.wrap ((((s30).length : Nat) : Int) - 1)) + 1)) - ((y66).1))).toNat y87))) := fun q => by rw [hs91_l]
                                try simp only [hs91_s]
                                conv => lhs; whnf
                                exact cq (hcont36 (IntKind.i64.wrap (s29 + 1), (List.take ((IntKind.i64.wrap ((IntKind.i64.wrap ((IntKind.i64.wrap ((IntKind.i64.wrap ((((s30).length : Nat) : Int) - 1)) + 1)) - ((y66).1))) + 1)).toNat) (List.set s30 (IntKind.i64.wrap ((IntKind.i64.wrap ((IntKind.i64.wrap ((((s30).length : Nat) : Int) - 1)) + 1)) - ((y66).1))).toNat y87))) (fun j => (bif Nat.beq j 1 then ((a32 1) + 1) else 0)) hm)
                              | c3 y67 =>
                                dsimp only at hm
                                have hk63 : call false 37 [AV.int .i64 (x40.op)] [] = some (AV.tup [AV.agg [AV.int .i64 ((y67).1), AV.func 57 [] []], AV.bool ((y67).2)], []) := (hc _ _ _).trans (ok_code_of n x40.op (.c3 y67) hy62)
                                try simp only [List.drop_zero, ls]
                                first | simp only [hk63] | rewrite [hk63]
                                try simp only [ls]
                                conv => lhs; whnf
                                refine bind_some2 hm ?_; clear hm; intro x93 hx93 hm
                                try simp only [dec_self]
                                conv => lhs; whnf
                                try simp only [ls]
                                refine bif_pos (by first | exact idx_in hx93 | exact idx_in' hx93 | exact own_in hx93 | exact own_in' hx93 | (have q := idx_in hx93; simp only [List.length_set] at q; exact q) | (have q := own_in' hx93; simp only [List.length_set, Nat.zero_add] at q ⊢; exact q)) ?_
                                conv => lhs; whnf
                                try simp only [idx_nth (f := encI) hx93, dec_self, ls]
                                conv => lhs; whnf
                                refine bind_some2 hm ?_; clear hm; intro x94 hx94 hm
                                try simp only [dec_self]
                                conv => lhs; whnf
                                try simp only [ls]
                                refine bif_pos (by first | exact idx_in hx94 | exact idx_in' hx94 | exact own_in hx94 | exact own_in' hx94 | (have q := idx_in hx94; simp only [List.length_set] at q; exact q) | (have q := own_in' hx94; simp only [List.length_set, Nat.zero_add] at q ⊢; exact q)) ?_
                                conv => lhs; whnf
                                try simp only [idx_nth (f := encI) hx94, dec_self, ls]
                                conv => lhs; whnf
                                refine bind_some2 hm ?_; clear hm; intro y95 hy95 hm
                                have hk96 : call false 57 [AV.int .i64 (x93), AV.int .i64 (x94), AV.int .i64 (v1_mod)] [] = some (AV.int .i64 (y95), []) := (hc _ _ _).trans (ok_code_of_8 n x93 x94 v1_mod y95 hy95)
                                try simp only [List.drop_zero, ls]
                                first | simp only [hk96] | rewrite [hk96]
                                try simp only [ls]
                                conv => lhs; whnf
                                refine bind_some2 hm ?_; clear hm; intro x97 hx97 hm
                                try simp only [dec_self]
                                conv => lhs; whnf
                                try simp only [ls]
                                refine bif_pos (by first | exact idx_in hx97 | exact idx_in' hx97 | exact own_in hx97 | exact own_in' hx97 | (have q := idx_in hx97; simp only [List.length_set] at q; exact q) | (have q := own_in' hx97; simp only [List.length_set, Nat.zero_add] at q ⊢; exact q)) ?_
                                conv => lhs; whnf
                                try simp only [idx_nth (f := encI) hx97, dec_self, ls]
                                conv => lhs; whnf
                                have hs98 : setNth (List.map encI s30) (IntKind.i64.wrap ((IntKind.i64.wrap ((IntKind.i64.wrap ((((s30).length : Nat) : Int) - 1)) + 1)) - ((y67).1))).toNat [AV.int .i64 (y95)] = List.map encI (List.set s30 (IntKind.i64.wrap ((IntKind.i64.wrap ((IntKind.i64.wrap ((((s30).length : Nat) : Int) - 1)) + 1)) - ((y67).1))).toNat y95) := by rw [setNth_eq, List.map_set]; rfl
                                have hs98_u : setNth (List.map encI s30) (IntKind.i64.wrap ((IntKind.i64.wrap ((IntKind.i64.wrap ((((s30).length : Nat) : Int) - 1)) + 1)) - ((y67).1))).toNat (updL (encI x97) 0 [AV.int .i64 (y95)]) = List.map encI (List.set s30 (IntKind.i64.wrap ((IntKind.i64.wrap ((IntKind.i64.wrap ((((s30).length : Nat) : Int) - 1)) + 1)) - ((y67).1))).toNat y95) := by rw [setNth_eq, List.map_set]; rfl
                                try simp only [idx_nth (f := encI) hx97, dec_self]
                                conv => lhs; whnf
                                try simp only [hs98, hs98_u, dec_self]
                                conv => lhs; whnf
                                refine chk_some2 hm ?_; clear hm; intro hc100 hm
                                try simp only [dec_self]
                                conv => lhs; whnf
                                try simp only [ls]
                                first | refine bif_pos hc100 ?_ | (refine bif_pos (by have q := hc100; simp only [List.length_set] at q; exact q) ?_)
                                have hs99 : List.take ((IntKind.i64.wrap ((IntKind.i64.wrap ((IntKind.i64.wrap ((IntKind.i64.wrap ((((s30).length : Nat) : Int) - 1)) + 1)) - ((y67).1))) + 1)).toNat) (List.map encI (List.set s30 (IntKind.i64.wrap ((IntKind.i64.wrap ((IntKind.i64.wrap ((((s30).length : Nat) : Int) - 1)) + 1)) - ((y67).1))).toNat y95)) = List.map encI (List.take ((IntKind.i64.wrap ((IntKind.i64.wrap ((IntKind.i64.wrap ((IntKind.i64.wrap ((((s30).length : Nat) : Int) - 1)) + 1)) - ((y67).1))) + 1)).toNat) (List.set s30 (IntKind.i64.wrap ((IntKind.i64.wrap ((IntKind.i64.wrap ((((s30).length : Nat) : Int) - 1)) + 1)) - ((y67).1))).toNat y95)) := by rw [List.map_take]
                                have hs99_l : List.length (List.take ((IntKind.i64.wrap ((IntKind.i64.wrap ((IntKind.i64.wrap ((IntKind.i64.wrap ((((s30).length : Nat) : Int) - 1)) + 1)) - ((y67).1))) + 1)).toNat) (List.set s30 (IntKind.i64.wrap ((IntKind.i64.wrap ((IntKind.i64.wrap ((((s30).length : Nat) : Int) - 1)) + 1)) - ((y67).1))).toNat y95)) = (IntKind.i64.wrap ((IntKind.i64.wrap ((IntKind.i64.wrap ((IntKind.i64.wrap ((((s30).length : Nat) : Int) - 1)) + 1)) - ((y67).1))) + 1)).toNat := by simp only [List.length_take]; exact Nat.min_eq_left (cut_le hc100)
                                conv => lhs; whnf
                                try simp only [dec_self, hs99]
                                conv => lhs; whnf
                                try simp only [hs99]
                                have hs99_s : ∀ q, AV.stk 1 q ((IntKind.i64.wrap ((IntKind.i64.wrap ((IntKind.i64.wrap ((IntKind.i64.wrap ((((s30).length : Nat) : Int) - 1)) + 1)) - ((y67).1))) + 1)).toNat) = AV.stk 1 q (List.length (List.take ((IntKind.i64.wrap ((IntKind.i64.wrap ((IntKind.i64.wrap ((IntKind.i64.wrap ((((s30).length : Nat) : Int) - 1)) + 1)) - ((y67).1))) + 1)).toNat) (List.set s30 (IntKind.i64.wrap ((IntKind.i64.wrap ((IntKind.i64.wrap ((((s30).length : Nat) : Int) - 1)) + 1)) - ((y67).1))).toNat y95))) := fun q => by rw [hs99_l]
                                try simp only [hs99_s]
                                conv => lhs; whnf
                                exact cq (hcont36 (IntKind.i64.wrap (s29 + 1), (List.take ((IntKind.i64.wrap ((IntKind.i64.wrap ((IntKind.i64.wrap ((IntKind.i64.wrap ((((s30).length : Nat) : Int) - 1)) + 1)) - ((y67).1))) + 1)).toNat) (List.set s30 (IntKind.i64.wrap ((IntKind.i64.wrap ((IntKind.i64.wrap ((((s30).length : Nat) : Int) - 1)) + 1)) - ((y67).1))).toNat y95))) (fun j => (bif Nat.beq j 1 then ((a32 1) + 1) else 0)) hm)
                              | c4 y68 =>
                                dsimp only at hm
                                have hk63 : call false 37 [AV.int .i64 (x40.op)] [] = some (AV.tup [AV.agg [AV.int .i64 ((y68).1), AV.func 56 [] []], AV.bool ((y68).2)], []) := (hc _ _ _).trans (ok_code_of n x40.op (.c4 y68) hy62)
                                try simp only [List.drop_zero, ls]
                                first | simp only [hk63] | rewrite [hk63]
                                try simp only [ls]
                                conv => lhs; whnf
                                refine bind_some2 hm ?_; clear hm; intro x101 hx101 hm
                                try simp only [dec_self]
                                conv => lhs; whnf
                                try simp only [ls]
                                refine bif_pos (by first | exact idx_in hx101 | exact idx_in' hx101 | exact own_in hx101 | exact own_in' hx101 | (have q := idx_in hx101; simp only [List.length_set] at q; exact q) | (have q := own_in' hx101; simp only [List.length_set, Nat.zero_add] at q ⊢; exact q)) ?_
                                conv => lhs; whnf
                                try simp only [idx_nth (f := encI) hx101, dec_self, ls]
                                conv => lhs; whnf
                                refine bind_some2 hm ?_; clear hm; intro x102 hx102 hm
                                try simp only [dec_self]
                                conv => lhs; whnf
                                try simp only [ls]
                                refine bif_pos (by first | exact idx_in hx102 | exact idx_in' hx102 | exact own_in hx102 | exact own_in' hx102 | (have q := idx_in hx102; simp only [List.length_set] at q; exact q) | (have q := own_in' hx102; simp only [List.length_set, Nat.zero_add] at q ⊢; exact q)) ?_
                                conv => lhs; whnf
                                try simp only [idx_nth (f := encI) hx102, dec_self, ls]
                                conv => lhs; whnf
                                refine bind_some2 hm ?_; clear hm; intro y103 hy103 hm
                                have hk104 : call false 56 [AV.int .i64 (x101), AV.int .i64 (x102), AV.int .i64 (v1_mod)] [] = some (AV.int .i64 (y103), []) := (hc _ _ _).trans (ok_code_of_7 n x101 x102 v1_mod y103 hy103)
                                try simp only [List.drop_zero, ls]
                                first | simp only [hk104] | rewrite [hk104]
                                try simp only [ls]
                                conv => lhs; whnf
                                refine bind_some2 hm ?_; clear hm; intro x105 hx105 hm
                                try simp only [dec_self]
                                conv => lhs; whnf
                                try simp only [ls]
                                refine bif_pos (by first | exact idx_in hx105 | exact idx_in' hx105 | exact own_in hx105 | exact own_in' hx105 | (have q := idx_in hx105; simp only [List.length_set] at q; exact q) | (have q := own_in' hx105; simp only [List.length_set, Nat.zero_add] at q ⊢; exact q)) ?_
                                conv => lhs; whnf
                                try simp only [idx_nth (f := encI) hx105, dec_self, ls]
                                conv => lhs; whnf
                                have hs106 : setNth (List.map encI s30) (IntKind.i64.wrap ((IntKind.i64.wrap ((IntKind.i64.wrap ((((s30).length : Nat) : Int) - 1)) + 1)) - ((y68).1))).toNat [AV.int .i64 (y103)] = List.map encI (List.set s30 (IntKind.i64.wrap ((IntKind.i64.wrap ((IntKind.i64.wrap ((((s30).length : Nat) : Int) - 1)) + 1)) - ((y68).1))).toNat y103) := by rw [setNth_eq, List.map_set]; rfl
                                have hs106_u : setNth (List.map encI s30) (IntKind.i64.wrap ((IntKind.i64.wrap ((IntKind.i64.wrap ((((s30).length : Nat) : Int) - 1)) + 1)) - ((y68).1))).toNat (updL (encI x105) 0 [AV.int .i64 (y103)]) = List.map encI (List.set s30 (IntKind.i64.wrap ((IntKind.i64.wrap ((IntKind.i64.wrap ((((s30).length : Nat) : Int) - 1)) + 1)) - ((y68).1))).toNat y103) := by rw [setNth_eq, List.map_set]; rfl
                                try simp only [idx_nth (f := encI) hx105, dec_self]
                                conv => lhs; whnf
                                try simp only [hs106, hs106_u, dec_self]
                                conv => lhs; whnf
                                refine chk_some2 hm ?_; clear hm; intro hc108 hm
                                try simp only [dec_self]
                                conv => lhs; whnf
                                try simp only [ls]
                                first | refine bif_pos hc108 ?_ | (refine bif_pos (by have q := hc108; simp only [List.length_set] at q; exact q) ?_)
                                have hs107 : List.take ((IntKind.i64.wrap ((IntKind.i64.wrap ((IntKind.i64.wrap ((IntKind.i64.wrap ((((s30).length : Nat) : Int) - 1)) + 1)) - ((y68).1))) + 1)).toNat) (List.map encI (List.set s30 (IntKind.i64.wrap ((IntKind.i64.wrap ((IntKind.i64.wrap ((((s30).length : Nat) : Int) - 1)) + 1)) - ((y68).1))).toNat y103)) = List.map encI (List.take ((IntKind.i64.wrap ((IntKind.i64.wrap ((IntKind.i64.wrap ((IntKind.i64.wrap ((((s30).length : Nat) : Int) - 1)) + 1)) - ((y68).1))) + 1)).toNat) (List.set s30 (IntKind.i64.wrap ((IntKind.i64.wrap ((IntKind.i64.wrap ((((s30).length : Nat) : Int) - 1)) + 1)) - ((y68).1))).toNat y103)) := by rw [List.map_take]
                                have hs107_l : List.length (List.take ((IntKind.i64.wrap ((IntKind.i64.wrap ((IntKind.i64.wrap ((IntKind.i64.wrap ((((s30).length : Nat) : Int) - 1)) + 1)) - ((y68).1))) + 1)).toNat) (List.set s30 (IntKind.i64.wrap ((IntKind.i64.wrap ((IntKind.i64.wrap ((((s30).length : Nat) : Int) - 1)) + 1)) - ((y68).1))).toNat y103)) = (IntKind.i64.wrap ((IntKind.i64.wrap ((IntKind.i64.wrap ((IntKind.i64.wrap ((((s30).length : Nat) : Int) - 1)) + 1)) - ((y68).1))) + 1)).toNat := by simp only [List.length_take]; exact Nat.min_eq_left (cut_le hc108)
                                conv => lhs; whnf
                                try simp only [dec_self, hs107]
                                conv => lhs; whnf
                                try simp only [hs107]
                                have hs107_s : ∀ q, AV.stk 1 q ((IntKind.i64.wrap ((IntKind.i64.wrap ((IntKind.i64.wrap ((IntKind.i64.wrap ((((s30).length : Nat) : Int) - 1)) + 1)) - ((y68).1))) + 1)).toNat) = AV.stk 1 q (List.length (List.take ((IntKind.i64.wrap ((IntKind.i64.wrap ((IntKind.i64.wrap ((IntKind.i64.wrap ((((s30).length : Nat) : Int) - 1)) + 1)) - ((y68).1))) + 1)).toNat) (List.set s30 (IntKind.i64.wrap ((IntKind.i64.wrap ((IntKind.i64.wrap ((((s30).length : Nat) : Int) - 1)) + 1)) - ((y68).1))).toNat y103))) := fun q => by rw [hs107_l]
                                try simp only [hs107_s]
                                conv => lhs; whnf
                                exact cq (hcont36 (IntKind.i64.wrap (s29 + 1), (List.take ((IntKind.i64.wrap ((IntKind.i64.wrap ((IntKind.i64.wrap ((IntKind.i64.wrap ((((s30).length : Nat) : Int) - 1)) + 1)) - ((y68).1))) + 1)).toNat) (List.set s30 (IntKind.i64.wrap ((IntKind.i64.wrap ((IntKind.i64.wrap ((((s30).length : Nat) : Int) - 1)) + 1)) - ((y68).1))).toNat y103))) (fun j => (bif Nat.beq j 1 then ((a32 1) + 1) else 0)) hm)
                              | c5 y69 =>
                                dsimp only at hm
                                have hk63 : call false 37 [AV.int .i64 (x40.op)] [] = some (AV.tup [AV.agg [AV.int .i64 ((y69).1), AV.func 55 [] []], AV.bool ((y69).2)], []) := (hc _ _ _).trans (ok_code_of n x40.op (.c5 y69) hy62)
                                try simp only [List.drop_zero, ls]
                                first | simp only [hk63] | rewrite [hk63]
                                try simp only [ls]
                                conv => lhs; whnf
                                refine bind_some2 hm ?_; clear hm; intro x109 hx109 hm
                                try simp only [dec_self]
                                conv => lhs; whnf
                                try simp only [ls]
                                refine bif_pos (by first | exact idx_in hx109 | exact idx_in' hx109 | exact own_in hx109 | exact own_in' hx109 | (have q := idx_in hx109; simp only [List.length_set] at q; exact q) | (have q := own_in' hx109; simp only [List.length_set, Nat.zero_add] at q ⊢; exact q)) ?_
                                conv => lhs; whnf
                                try simp only [idx_nth (f := encI) hx109, dec_self, ls]
                                conv => lhs; whnf
                                refine bind_some2 hm ?_; clear hm; intro x110 hx110 hm
                                try simp only [dec_self]
                                conv => lhs; whnf
                                try simp only [ls]
                                refine bif_pos (by first | exact idx_in hx110 | exact idx_in' hx110 | exact own_in hx110 | exact own_in' hx110 | (have q := idx_in hx110; simp only [List.length_set] at q; exact q) | (have q := own_in' hx110; simp only [List.length_set, Nat.zero_add] at q ⊢; exact q)) ?_
                                conv => lhs; whnf
                                try simp only [idx_nth (f := encI) hx110, dec_self, ls]
                                conv => lhs; whnf
                                refine bind_some2 hm ?_; clear hm; intro y111 hy111 hm
                                have hk112 : call false 55 [AV.int .i64 (x109), AV.int .i64 (x110), AV.int .i64 (v1_mod)] [] = some (AV.int .i64 (y111), []) := (hc _ _ _).trans (ok_code_of_6 n x109 x110 v1_mod y111 hy111)
                                try simp only [List.drop_zero, ls]
                                first | simp only [hk112] | rewrite [hk112]
                                try simp only [ls]
                                conv => lhs; whnf
                                refine bind_some2 hm ?_; clear hm; intro x113 hx113 hm
                                try simp only [dec_self]
                                conv => lhs; whnf
                                try simp only [ls]
                                refine bif_pos (by first | exact idx_in hx113 | exact idx_in' hx113 | exact own_in hx113 | exact own_in' hx113 | (have q := idx_in hx113; simp only [List.length_set] at q; exact q) | (have q := own_in' hx113; simp only [List.length_set, Nat.zero_add] at q ⊢; exact q)) ?_
                                conv => lhs; whnf
                                try simp only [idx_nth (f := encI) hx113, dec_self, ls]
                                conv => lhs; whnf
                                have hs114 : setNth (List.map encI s30) (IntKind.i64.wrap ((IntKind.i64.wrap ((IntKind.i64.wrap ((((s30).length : Nat) : Int) - 1)) + 1)) - ((y69).1))).toNat [AV.int .i64 (y111)] = List.map encI (List.set s30 (IntKind.i64.wrap ((IntKind.i64.wrap ((IntKind.i64.wrap ((((s30).length : Nat) : Int) - 1)) + 1)) - ((y69).1))).toNat y111) := by rw [setNth_eq, List.map_set]; rfl
                                have hs114_u : setNth (List.map encI s30) (IntKind.i64.wrap ((IntKind.i64.wrap ((IntKind.i64.wrap ((((s30).length : Nat) : Int) - 1)) + 1)) - ((y69).1))).toNat (updL (encI x113) 0 [AV.int .i64 (y111)]) = List.map encI (List.set s30 (IntKind.i64.wrap ((IntKind.i64.wrap ((IntKind.i64.wrap ((((s30).length : Nat) : Int) - 1)) + 1)) - ((y69).1))).toNat y111) := by rw [setNth_eq, List.map_set]; rfl
                                try simp only [idx_nth (f := encI) hx113, dec_self]
                                conv => lhs; whnf
                                try simp only [hs114, hs114_u, dec_self]
                                conv => lhs; whnf
                                refine chk_some2 hm ?_; clear hm; intro hc116 hm
                                try simp only [dec_self]
                                conv => lhs; whnf
                                try simp only [ls]
                                first | refine bif_pos hc116 ?_ | (refine bif_pos (by have q := hc116; simp only [List.length_set] at q; exact q) ?_)
                                have hs115 : List.take ((IntKind.i64.wrap ((IntKind.i64.wrap ((IntKind.i64.wrap ((IntKind.i64.wrap ((((s30).length : Nat) : Int) - 1)) + 1)) - ((y69).1))) + 1)).toNat) (List.map encI (List.set s30 (IntKind.i64.wrap ((IntKind.i64.wrap ((IntKind.i64.wrap ((((s30).length : Nat) : Int) - 1)) + 1)) - ((y69).1))).toNat y111)) = List.map encI (List.take ((IntKind.i64.wrap ((IntKind.i64.wrap ((IntKind.i64.wrap ((IntKind.i64.wrap ((((s30).length : Nat) : Int) - 1)) + 1)) - ((y69).1))) + 1)).toNat) (List.set s30 (IntKind.i64.wrap ((IntKind.i64.wrap ((IntKind.i64.wrap ((((s30).length : Nat) : Int) - 1)) + 1)) - ((y69).1))).toNat y111)) := by rw [List.map_take]
                                have hs115_l : List.length (List.take ((IntKind.i64.wrap ((IntKind.i64.wrap ((IntKind.i64.wrap ((IntKind.i64.wrap ((((s30).length : Nat) : Int) - 1)) + 1)) - ((y69).1))) + 1)).toNat) (List.set s30 (IntKind.i64.wrap ((IntKind.i64.wrap ((IntKind.i64.wrap ((((s30).length : Nat) : Int) - 1)) + 1)) - ((y69).1))).toNat y111)) = (IntKind.i64.wrap ((IntKind.i64.wrap ((IntKind.i64.wrap ((IntKind.i64.wrap ((((s30).length : Nat) : Int) - 1)) + 1)) - ((y69).1))) + 1)).toNat := by simp only [List.length_take]; exact Nat.min_eq_left (cut_le hc116)
                                conv => lhs; whnf
                                try simp only [dec_self, hs115]
                                conv => lhs; whnf
                                try simp only [hs115]
                                have hs115_s : ∀ q, AV.stk 1 q ((IntKind.i64.wrap ((IntKind.i64.wrap ((IntKind.i64.wrap ((IntKind.i64.wrap ((((s30).length : Nat) : Int) - 1)) + 1)) - ((y69).1))) + 1)).toNat) = AV.stk 1 q (List.length (List.take ((IntKind.i64.wrap ((IntKind.i64.wrap ((IntKind.i64.wrap ((IntKind.i64.wrap ((((s30).length : Nat) : Int) - 1)) + 1)) - ((y69).1))) + 1)).toNat) (List.set s30 (IntKind.i64.wrap ((IntKind.i64.wrap ((IntKind.i64.wrap ((((s30).length : Nat) : Int) - 1)) + 1)) - ((y69).1))).toNat y111))) := fun q => by rw [hs115_l]
                                try simp only [hs115_s]
                                conv => lhs; whnf
                                exact cq (hcont36 (IntKind.i64.wrap (s29 + 1), (List.take ((IntKind.i64.wrap ((IntKind.i64.wrap ((IntKind.i64.wrap ((IntKind.i64.wrap ((((s30).length : Nat) : Int) - 1)) + 1)) - ((y69).1))) + 1)).toNat) (List.set s30 (IntKind.i64.wrap ((IntKind.i64.wrap ((IntKind.i64.wrap ((((s30).length : Nat) : Int) - 1)) + 1)) - ((y69).1))).toNat y111))) (fun j => (bif Nat.beq j 1 then ((a32 1) + 1) else 0)) hm)
                              | c6 y70 =>
                                dsimp only at hm
                                have hk63 : call false 37 [AV.int .i64 (x40.op)] [] = some (AV.tup [AV.agg [AV.int .i64 ((y70).1), AV.func 54 [] []], AV.bool ((y70).2)], []) := (hc _ _ _).trans (ok_code_of n x40.op (.c6 y70) hy62)
                                try simp only [List.drop_zero, ls]
                                first | simp only [hk63] | rewrite [hk63]
                                try simp only [ls]
                                conv => lhs; whnf
                                refine bind_some2 hm ?_; clear hm; intro x117 hx117 hm
                                try simp only [dec_self]
                                conv => lhs; whnf
                                try simp only [ls]
                                refine bif_pos (by first | exact idx_in hx117 | exact idx_in' hx117 | exact own_in hx117 | exact own_in' hx117 | (have q := idx_in hx117; simp only [List.length_set] at q; exact q) | (have q := own_in' hx117; simp only [List.length_set, Nat.zero_add] at q ⊢; exact q)) ?_
                                conv => lhs; whnf
                                try simp only [idx_nth (f := encI) hx117, dec_self, ls]
                                conv => lhs; whnf
                                refine bind_some2 hm ?_; clear hm; intro x118 hx118 hm
                                try simp only [dec_self]
                                conv => lhs; whnf
                                try simp only [ls]
                                refine bif_pos (by first | exact idx_in hx118 | exact idx_in' hx118 | exact own_in hx118 | exact own_in' hx118 | (have q := idx_in hx118; simp only [List.length_set] at q; exact q) | (have q := own_in' hx118; simp only [List.length_set, Nat.zero_add] at q ⊢; exact q)) ?_
                                conv => lhs; whnf
                                try simp only [idx_nth (f := encI) hx118, dec_self, ls]
                                conv => lhs; whnf
                                refine bind_some2 hm ?_; clear hm; intro y119 hy119 hm
                                have hk120 : call false 54 [AV.int .i64 (x117), AV.int .i64 (x118), AV.int .i64 (v1_mod)] [] = some (AV.int .i64 (y119), []) := (hc _ _ _).trans (ok_code_of_5 n x117 x118 v1_mod y119 hy119)
                                try simp only [List.drop_zero, ls]
                                first | simp only [hk120] | rewrite [hk120]
                                try simp only [ls]
                                conv => lhs; whnf
                                refine bind_some2 hm ?_; clear hm; intro x121 hx121 hm
                                try simp only [dec_self]
                                conv => lhs; whnf
                                try simp only [ls]
                                refine bif_pos (by first | exact idx_in hx121 | exact idx_in' hx121 | exact own_in hx121 | exact own_in' hx121 | (have q := idx_in hx121; simp only [List.length_set] at q; exact q) | (have q := own_in' hx121; simp only [List.length_set, Nat.zero_add] at q ⊢; exact q)) ?_
                                conv => lhs; whnf
                                try simp only [idx_nth (f := encI) hx121, dec_self, ls]
                                conv => lhs; whnf
                                have hs122 : setNth (List.map encI s30) (IntKind.i64.wrap ((IntKind.i64.wrap ((IntKind.i64.wrap ((((s30).length : Nat) : Int) - 1)) + 1)) - ((y70).1))).toNat [AV.int .i64 (y119)] = List.map encI (List.set s30 (IntKind.i64.wrap ((IntKind.i64.wrap ((IntKind.i64.wrap ((((s30).length : Nat) : Int) - 1)) + 1)) - ((y70).1))).toNat y119) := by rw [setNth_eq, List.map_set]; rfl
                                have hs122_u : setNth (List.map encI s30) (IntKind.i64.wrap ((IntKind.i64.wrap ((IntKind.i64.wrap ((((s30).length : Nat) : Int) - 1)) + 1)) - ((y70).1))).toNat (updL (encI x121) 0 [AV.int .i64 (y119)]) = List.map encI (List.set s30 (IntKind.i64.wrap ((IntKind.i64.wrap ((IntKind.i64.wrap ((((s30).length : Nat) : Int) - 1)) + 1)) - ((y70).1))).toNat y119) := by rw [setNth_eq, List.map_set]; rfl
                                try simp only [idx_nth (f := encI) hx121, dec_self]
                                conv => lhs; whnf
                                try simp only [hs122, hs122_u, dec_self]
                                conv => lhs; whnf
                                refine chk_some2 hm ?_; clear hm; intro hc124 hm
                                try simp only [dec_self]
                                conv => lhs; whnf
                                try simp only [ls]
                                first | refine bif_pos hc124 ?_ | (refine bif_pos (by have q := hc124; simp only [List.length_set] at q; exact q) ?_)
                                have hs123 : List.take ((IntKind.i64.wrap ((IntKind.i64.wrap ((IntKind.i64.wrap ((IntKind.i64.wrap ((((s30).length : Nat) : Int) - 1)) + 1)) - ((y70).1))) + 1)).toNat) (List.map encI (List.set s30 (IntKind.i64.wrap ((IntKind.i64.wrap ((IntKind.i64.wrap ((((s30).length : Nat) : Int) - 1)) + 1)) - ((y70).1))).toNat y119)) = List.map encI (List.take ((IntKind.i64.wrap ((IntKind.i64.wrap ((IntKind.i64.wrap ((IntKind.i64.wrap ((((s30).length : Nat) : Int) - 1)) + 1)) - ((y70).1))) + 1)).toNat) (List.set s30 (IntKind.i64.wrap ((IntKind.i64.wrap ((IntKind.i64.wrap ((((s30).length : Nat) : Int) - 1)) + 1)) - ((y70).1))).toNat y119)) := by rw [List.map_take]
                                have hs123_l : List.length (List.take ((IntKind.i64.wrap ((IntKind.i64.wrap ((IntKind.i64.wrap ((IntKind.i64.wrap ((((s30).length : Nat) : Int) - 1)) + 1)) - ((y70).1))) + 1)).toNat) (List.set s30 (IntKind.i64.wrap ((IntKind.i64.wrap ((IntKind.i64.wrap ((((s30).length : Nat) : Int) - 1)) + 1)) - ((y70).1))).toNat y119)) = (IntKind.i64.wrap ((IntKind.i64.wrap ((IntKind.i64.wrap ((IntKind.i64.wrap ((((s30).length : Nat) : Int) - 1)) + 1)) - ((y70).1))) + 1)).toNat := by simp only [List.length_take]; exact Nat.min_eq_left (cut_le hc124)
                                conv => lhs; whnf
                                try simp only [dec_self, hs123]
                                conv => lhs; whnf
                                try simp only [hs123]
                                have hs123_s : ∀ q, AV.stk 1 q ((IntKind.i64.wrap ((IntKind.i64.wrap ((IntKind.i64.wrap ((IntKind.i64.wrap ((((s30).length : Nat) : Int) - 1)) + 1)) - ((y70).1))) + 1)).toNat) = AV.stk 1 q (List.length (List.take ((IntKind.i64.wrap ((IntKind.i64.wrap ((IntKind.i64.wrap ((IntKind.i64.wrap ((((s30).length : Nat) : Int) - 1)) + 1)) - ((y70).1))) + 1)).toNat) (List.set s30 (IntKind.i64.wrap ((IntKind.i64.wrap ((IntKind.i64.wrap ((((s30).length : Nat) : Int) - 1)) + 1)) - ((y70).1))).toNat y119))) := fun q => by rw [hs123_l]
                                try simp only [hs123_s]
                                conv => lhs; whnf
                                exact cq (hcont36 (IntKind.i64.wrap (s29 + 1), (List.take ((IntKind.i64.wrap ((IntKind.i64.wrap ((IntKind.i64.wrap ((IntKind.i64.wrap ((((s30).length : Nat) : Int) - 1)) + 1)) - ((y70).1))) + 1)).toNat) (List.set s30 (IntKind.i64.wrap ((IntKind.i64.wrap ((IntKind.i64.wrap ((((s30).length : Nat) : Int) - 1)) + 1)) - ((y70).1))).toNat y119))) (fun j => (bif Nat.beq j 1 then ((a32 1) + 1) else 0)) hm)
                              | c7 y71 =>
                                dsimp only at hm
                                have hk63 : call false 37 [AV.int .i64 (x40.op)] [] = some (AV.tup [AV.agg [AV.int .i64 ((y71).1), AV.func 53 [] []], AV.bool ((y71).2)], []) := (hc _ _ _).trans (ok_code_of n x40.op (.c7 y71) hy62)
                                try simp only [List.drop_zero, ls]
                                first | simp only [hk63] | rewrite [hk63]
                                try simp only [ls]
                                conv => lhs; whnf
                                refine bind_some2 hm ?_; clear hm; intro x125 hx125 hm
                                try simp only [dec_self]
                                conv => lhs; whnf
                                try simp only [ls]
                                refine bif_pos (by first | exact idx_in hx125 | exact idx_in' hx125 | exact own_in hx125 | exact own_in' hx125 | (have q := idx_in hx125; simp only [List.length_set] at q; exact q) | (have q := own_in' hx125; simp only [List.length_set, Nat.zero_add] at q ⊢; exact q)) ?_
                                conv => lhs; whnf
                                try simp only [idx_nth (f := encI) hx125, dec_self, ls]
                                conv => lhs; whnf
                                refine bind_some2 hm ?_; clear hm; intro x126 hx126 hm
                                try simp only [dec_self]
                                conv => lhs; whnf
                                try simp only [ls]
                                refine bif_pos (by first | exact idx_in hx126 | exact idx_in' hx126 | exact own_in hx126 | exact own_in' hx126 | (have q := idx_in hx126; simp only [List.length_set] at q; exact q) | (have q := own_in' hx126; simp only [List.length_set, Nat.zero_add] at q ⊢; exact q)) ?_
                                conv => lhs; whnf
                                try simp only [idx_nth (f := encI) hx126, dec_self, ls]
                                conv => lhs; whnf
                                refine bind_some2 hm ?_; clear hm; intro y127 hy127 hm
                                have hk128 : call false 53 [AV.int .i64 (x125), AV.int .i64 (x126), AV.int .i64 (v1_mod)] [] = some (AV.int .i64 (y127), []) := (hc _ _ _).trans (ok_code_of_4 n x125 x126 v1_mod y127 hy127)
                                try simp only [List.drop_zero, ls]
                                first | simp only [hk128] | rewrite [hk128]
                                try simp only [ls]
                                conv => lhs; whnf
                                refine bind_some2 hm ?_; clear hm; intro x129 hx129 hm
                                try simp only [dec_self]
                                conv => lhs; whnf
                                try simp only [ls]
                                refine bif_pos (by first | exact idx_in hx129 | exact idx_in' hx129 | exact own_in hx129 | exact own_in' hx129 | (have q := idx_in hx129; simp only [List.length_set] at q; exact q) | (have q := own_in' hx129; simp only [List.length_set, Nat.zero_add] at q ⊢; exact q)) ?_
                                conv => lhs; whnf
                                try simp only [idx_nth (f := encI) hx129, dec_self, ls]
                                conv => lhs; whnf
                                have hs130 : setNth (List.map encI s30) (IntKind.i64.wrap ((IntKind.i64.wrap ((IntKind.i64.wrap ((((s30).length : Nat) : Int) - 1)) + 1)) - ((y71).1))).toNat [AV.int .i64 (y127)] = List.map encI (List.set s30 (IntKind.i64.wrap ((IntKind.i64.wrap ((IntKind.i64.wrap ((((s30).length : Nat) : Int) - 1)) + 1)) - ((y71).1))).toNat y127) := by rw [setNth_eq, List.map_set]; rfl
                                have hs130_u : setNth (List.map encI s30) (IntKind.i64.wrap ((IntKind.i64.wrap ((IntKind.i64.wrap ((((s30).length : Nat) : Int) - 1)) + 1)) - ((y71).1))).toNat (updL (encI x129) 0 [AV.int .i64 (y127)]) = List.map encI (List.set s30 (IntKind.i64.wrap ((IntKind.i64.wrap ((IntKind.i64.wrap ((((s30).length : Nat) : Int) - 1)) + 1)) - ((y71).1))).toNat y127) := by rw [setNth_eq, List.map_set]; rfl
                                try simp only [idx_nth (f := encI) hx129, dec_self]
                                conv => lhs; whnf
                                try simp only [hs130, hs130_u, dec_self]
                                conv => lhs; whnf
                                refine chk_some2 hm ?_; clear hm; intro hc132 hm
                                try simp only [dec_self]
                                conv => lhs; whnf
                                try simp only [ls]
                                first | refine bif_pos hc132 ?_ | (refine bif_pos (by have q := hc132; simp only [List.length_set] at q; exact q) ?_)
                                have hs131 : List.take ((IntKind.i64.wrap ((IntKind.i64.wrap ((IntKind.i64.wrap ((IntKind.i64.wrap ((((s30).length : Nat) : Int) - 1)) + 1)) - ((y71).1))) + 1)).toNat) (List.map encI (List.set s30 (IntKind.i64.wrap ((IntKind.i64.wrap ((IntKind.i64.wrap ((((s30).length : Nat) : Int) - 1)) + 1)) - ((y71).1))).toNat y127)) = List.map encI (List.take ((IntKind.i64.wrap ((IntKind.i64.wrap ((IntKind.i64.wrap ((IntKind.i64.wrap ((((s30).length : Nat) : Int) - 1)) + 1)) - ((y71).1))) + 1)).toNat) (List.set s30 (IntKind.i64.wrap ((IntKind.i64.wrap ((IntKind.i64.wrap ((((s30).length : Nat) : Int) - 1)) + 1)) - ((y71).1))).toNat y127)) := by rw [List.map_take]
                                have hs131_l : List.length (List.take ((IntKind.i64.wrap ((IntKind.i64.wrap ((IntKind.i64.wrap ((IntKind.i64.wrap ((((s30).length : Nat) : Int) - 1)) + 1)) - ((y71).1))) + 1)).toNat) (List.set s30 (IntKind.i64.wrap ((IntKind.i64.wrap ((IntKind.i64.wrap ((((s30).length : Nat) : Int) - 1)) + 1)) - ((y71).1))).toNat y127)) = (IntKind.i64.wrap ((IntKind.i64.wrap ((IntKind.i64.wrap ((IntKind.i64.wrap ((((s30).length : Nat) : Int) - 1)) + 1)) - ((y71).1))) + 1)).toNat := by simp only [List.length_take]; exact Nat.min_eq_left (cut_le hc132)
                                conv => lhs; whnf
                                try simp only [dec_self, hs131]
                                conv => lhs; whnf
                                try simp only [hs131]
                                have hs131_s : ∀ q, AV.stk 1 q ((IntKind.i64.wrap ((IntKind.i64.wrap ((IntKind.i64.wrap ((IntKind.i64.wrap ((((s30).length : Nat) : Int) - 1)) + 1)) - ((y71).1))) + 1)).toNat) = AV.stk 1 q (List.length (List.take ((IntKind.i64.wrap ((IntKind.i64.wrap ((IntKind.i64.wrap ((IntKind.i64.wrap ((((s30).length : Nat) : Int) - 1)) + 1)) - ((y71).1))) + 1)).toNat) (List.set s30 (IntKind.i64.wrap ((IntKind.i64.wrap ((IntKind.i64.wrap ((((s30).length : Nat) : Int) - 1)) + 1)) - ((y71).1))).toNat y127))) := fun q => by rw [hs131_l]
                                try simp only [hs131_s]
                                conv => lhs; whnf
                                exact cq (hcont36 (IntKind.i64.wrap (s29 + 1), (List.take ((IntKind.i64.wrap ((IntKind.i64.wrap ((IntKind.i64.wrap ((IntKind.i64.wrap ((((s30).length : Nat) : Int) - 1)) + 1)) - ((y71).1))) + 1)).toNat) (List.set s30 (IntKind.i64.wrap ((IntKind.i64.wrap ((IntKind.i64.wrap ((((s30).length : Nat) : Int) - 1)) + 1)) - ((y71).1))).toNat y127))) (fun j => (bif Nat.beq j 1 then ((a32 1) + 1) else 0)) hm)
                              | c8 y72 =>
                                dsimp only at hm
                                have hk63 : call false 37 [AV.int .i64 (x40.op)] [] = some (AV.tup [AV.agg [AV.int .i64 ((y72).1), AV.func 52 [] []], AV.bool ((y72).2)], []) := (hc _ _ _).trans (ok_code_of n x40.op (.c8 y72) hy62)
                                try simp only [List.drop_zero, ls]
                                first | simp only [hk63] | rewrite [hk63]
                                try simp only [ls]
                                conv => lhs; whnf
                                refine bind_some2 hm ?_; clear hm; intro x133 hx133 hm
                                try simp only [dec_self]
                                conv => lhs; whnf
                                try simp only [ls]
                                refine bif_pos (by first | exact idx_in hx133 | exact idx_in' hx133 | exact own_in hx133 | exact own_in' hx133 | (have q := idx_in hx133; simp only [List.length_set] at q; exact q) | (have q := own_in' hx133; simp only [List.length_set, Nat.zero_add] at q ⊢; exact q)) ?_
                                conv => lhs; whnf
                                try simp only [idx_nth (f := encI) hx133, dec_self, ls]
                                conv => lhs; whnf
                                refine bind_some2 hm ?_; clear hm; intro x134 hx134 hm
                                try simp only [dec_self]
                                conv => lhs; whnf
                                try simp only [ls]
                                refine bif_pos (by first | exact idx_in hx134 | exact idx_in' hx134 | exact own_in hx134 | exact own_in' hx134 | (have q := idx_in hx134; simp only [List.length_set] at q; exact q) | (have q := own_in' hx134; simp only [List.length_set, Nat.zero_add] at q ⊢; exact q)) ?_
                                conv => lhs; whnf
                                try simp only [idx_nth (f := encI) hx134, dec_self, ls]
                                conv => lhs; whnf
                                refine bind_some2 hm ?_; clear hm; intro y135 hy135 hm
                                have hk136 : call false 52 [AV.int .i64 (x133), AV.int .i64 (x134), AV.int .i64 (v1_mod)] [] = some (AV.int .i64 (y135), []) := (hc _ _ _).trans (ok_code_of_3 n x133 x134 v1_mod y135 hy135)
                                try simp only [List.drop_zero, ls]
                                first | simp only [hk136] | rewrite [hk136]
                                try simp only [ls]
                                conv => lhs; whnf
                                refine bind_some2 hm ?_; clear hm; intro x137 hx137 hm
                                try simp only [dec_self]
                                conv => lhs; whnf
                                try simp only [ls]
                                refine bif_pos (by first | exact idx_in hx137 | exact idx_in' hx137 | exact own_in hx137 | exact own_in' hx137 | (have q := idx_in hx137; simp only [List.length_set] at q; exact q) | (have q := own_in' hx137; simp only [List.length_set, Nat.zero_add] at q ⊢; exact q)) ?_
                                conv => lhs; whnf
                                try simp only [idx_nth (f := encI) hx137, dec_self, ls]
                                conv => lhs; whnf
                                have hs138 : setNth (List.map encI s30) (IntKind.i64.wrap ((IntKind.i64.wrap ((IntKind.i64.wrap ((((s30).length : Nat) : Int) - 1)) + 1)) - ((y72).1))).toNat [AV.int .i64 (y135)] = List.map encI (List.set s30 (IntKind.i64.wrap ((IntKind.i64.wrap ((IntKind.i64.wrap ((((s30).length : Nat) : Int) - 1)) + 1)) - ((y72).1))).toNat y135) := by rw [setNth_eq, List.map_set]; rfl
                                have hs138_u : setNth (List.map encI s30) (IntKind.i64.wrap ((IntKind.i64.wrap ((IntKind.i64.wrap ((((s30).length : Nat) : Int) - 1)) + 1)) - ((y72).1))).toNat (updL (encI x137) 0 [AV.int .i64 (y135)]) = List.map encI (List.set s30 (IntKind.i64.wrap ((IntKind.i64.wrap ((IntKind.i64.wrap ((((s30).length : Nat) : Int) - 1)) + 1)) - ((y72).1))).toNat y135) := by rw [setNth_eq, List.map_set]; rfl
                                try simp only [idx_nth (f := encI) hx137, dec_self]
                                conv => lhs; whnf
                                try simp only [hs138, hs138_u, dec_self]
                                conv => lhs; whnf
                                refine chk_some2 hm ?_; clear hm; intro hc140 hm
                                try simp only [dec_self]
                                conv => lhs; whnf
                                try simp only [ls]
                                first | refine bif_pos hc140 ?_ | (refine bif_pos (by have q := hc140; simp only [List.length_set] at q; exact q) ?_)
                                have hs139 : List.take ((IntKind.i64.wrap ((IntKind.i64.wrap ((IntKind.i64.wrap ((IntKind.i64.wrap ((((s30).length : Nat) : Int) - 1)) + 1)) - ((y72).1))) + 1)).toNat) (List.map encI (List.set s30 (IntKind.i64.wrap ((IntKind.i64.wrap ((IntKind.i64.wrap ((((s30).length : Nat) : Int) - 1)) + 1)) - ((y72).1))).toNat y135)) = List.map encI (List.take ((IntKind.i64.wrap ((IntKind.i64.wrap ((IntKind.i64.wrap ((IntKind.i64.wrap ((((s30).length : Nat) : Int) - 1)) + 1)) - ((y72).1))) + 1)).toNat) (List.set s30 (IntKind.i64.wrap ((IntKind.i64.wrap ((IntKind.i64.wrap ((((s30).length : Nat) : Int) - 1)) + 1)) - ((y72).1))).toNat y135)) := by rw [List.map_take]
                                have hs139_l : List.length (List.take ((IntKind.i64.wrap ((IntKind.i64.wrap ((IntKind.i64.wrap ((IntKind.i64.wrap ((((s30).length : Nat) : Int) - 1)) + 1)) - ((y72).1))) + 1)).toNat) (List.set s30 (IntKind.i64.wrap ((IntKind.i64.wrap ((IntKind.i64.wrap ((((s30).length : Nat) : Int) - 1)) + 1)) - ((y72).1))).toNat y135)) = (IntKind.i64.wrap ((IntKind.i64.wrap ((IntKind.i64.wrap ((IntKind.i64.wrap ((((s30).length : Nat) : Int) - 1)) + 1)) - ((y72).1))) + 1)).toNat := by simp only [List.length_take]; exact Nat.min_eq_left (cut_le hc140)
                                conv => lhs; whnf
                                try simp only [dec_self, hs139]
                                conv => lhs; whnf
                                try simp only [hs139]
                                have hs139_s : ∀ q, AV.stk 1 q ((IntKind.i64.wrap ((IntKind.i64.wrap ((IntKind.i64.wrap ((IntKind.i64.wrap ((((s30).length : Nat) : Int) - 1)) + 1)) - ((y72).1))) + 1)).toNat) = AV.stk 1 q (List.length (List.take ((IntKind.i64.wrap ((IntKind.i64.wrap ((IntKind.i64.wrap ((IntKind.i64.wrap ((((s30).length : Nat) : Int) - 1)) + 1)) - ((y72).1))) + 1)).toNat) (List.set s30 (IntKind.i64.wrap ((IntKind.i64.wrap ((IntKind.i64.wrap ((((s30).length : Nat) : Int) - 1)) + 1)) - ((y72).1))).toNat y135))) := fun q => by rw [hs139_l]
                                try simp only [hs139_s]
                                conv => lhs; whnf
                                exact cq (hcont36 (IntKind.i64.wrap (s29 + 1), (List.take ((IntKind.i64.wrap ((IntKind.i64.wrap ((IntKind.i64.wrap ((IntKind.i64.wrap ((((s30).length : Nat) : Int) - 1)) + 1)) - ((y72).1))) + 1)).toNat) (List.set s30 (IntKind.i64.wrap ((IntKind.i64.wrap ((IntKind.i64.wrap ((((s30).length : Nat) : Int) - 1)) + 1)) - ((y72).1))).toNat y135))) (fun j => (bif Nat.beq j 1 then ((a32 1) + 1) else 0)) hm)
                              | c9 y73 =>
                                dsimp only at hm
                                have hk63 : call false 37 [AV.int .i64 (x40.op)] [] = some (AV.tup [AV.agg [AV.int .i64 ((y73).1), AV.func 51 [] []], AV.bool ((y73).2)], []) := (hc _ _ _).trans (ok_code_of n x40.op (.c9 y73) hy62)
                                try simp only [List.drop_zero, ls]
                                first | simp only [hk63] | rewrite [hk63]
                                try simp only [ls]
                                conv => lhs; whnf
                                refine bind_some2 hm ?_; clear hm; intro x141 hx141 hm
                                try simp only [dec_self]
                                conv => lhs; whnf
                                try simp only [ls]
                                refine bif_pos (by first | exact idx_in hx141 | exact idx_in' hx141 | exact own_in hx141 | exact own_in' hx141 | (have q := idx_in hx141; simp only [List.length_set] at q; exact q) | (have q := own_in' hx141; simp only [List.length_set, Nat.zero_add] at q ⊢; exact q)) ?_
                                conv => lhs; whnf
                                try simp only [idx_nth (f := encI) hx141, dec_self, ls]
                                conv => lhs; whnf
                                refine bind_some2 hm ?_; clear hm; intro x142 hx142 hm
                                try simp only [dec_self]
                                conv => lhs; whnf
                                try simp only [ls]
                                refine bif_pos (by first | exact idx_in hx142 | exact idx_in' hx142 | exact own_in hx142 | exact own_in' hx142 | (have q := idx_in hx142; simp only [List.length_set] at q; exact q) | (have q := own_in' hx142; simp only [List.length_set, Nat.zero_add] at q ⊢; exact q)) ?_
                                conv => lhs; whnf
                                try simp only [idx_nth (f := encI) hx142, dec_self, ls]
                                conv => lhs; whnf
                                refine bind_some2 hm ?_; clear hm; intro y143 hy143 hm
                                have hk144 : call false 51 [AV.int .i64 (x141), AV.int .i64 (x142), AV.int .i64 (v1_mod)] [] = some (AV.int .i64 (y143), []) := (hc _ _ _).trans (ok_code_of_2 n x141 x142 v1_mod y143 hy143)
                                try simp only [List.drop_zero, ls]
                                first | simp only [hk144] | rewrite [hk144]
                                try simp only [ls]
                                conv => lhs; whnf
                                refine bind_some2 hm ?_; clear hm; intro x145 hx145 hm
                                try simp only [dec_self]
                                conv => lhs; whnf
                                try simp only [ls]
                                refine bif_pos (by first | exact idx_in hx145 | exact idx_in' hx145 | exact own_in hx145 | exact own_in' hx145 | (have q := idx_in hx145; simp only [List.length_set] at q; exact q) | (have q := own_in' hx145; simp only [List.length_set, Nat.zero_add] at q ⊢; exact q)) ?_
                                conv => lhs; whnf
                                try simp only [idx_nth (f := encI) hx145, dec_self, ls]
                                conv => lhs; whnf
                                have hs146 : setNth (List.map encI s30) (IntKind.i64.wrap ((IntKind.i64.wrap ((IntKind.i64.wrap ((((s30).length : Nat) : Int) - 1)) + 1)) - ((y73).1))).toNat [AV.int .i64 (y143)] = List.map encI (List.set s30 (IntKind.i64.wrap ((IntKind.i64.wrap ((IntKind.i64.wrap ((((s30).length : Nat) : Int) - 1)) + 1)) - ((y73).1))).toNat y143) := by rw [setNth_eq, List.map_set]; rfl
                                have hs146_u : setNth (List.map encI s30) (IntKind.i64.wrap ((IntKind.i64.wrap ((IntKind.i64.wrap ((((s30).length : Nat) : Int) - 1)) + 1)) - ((y73).1))).toNat (updL (encI x145) 0 [AV.int .i64 (y143)]) = List.map encI (List.set s30 (IntKind.i64.wrap ((IntKind.i64.wrap ((IntKind.i64.wrap ((((s30).length : Nat) : Int) - 1)) + 1)) - ((y73).1))).toNat y143) := by rw [setNth_eq, List.map_set]; rfl
                                try simp only [idx_nth (f := encI) hx145, dec_self]
                                conv => lhs; whnf
                                try simp only [hs146, hs146_u, dec_self]
                                conv => lhs; whnf
                                refine chk_some2 hm ?_; clear hm; intro hc148 hm
                                try simp only [dec_self]
                                conv => lhs; whnf
                                try simp only [ls]
                                first | refine bif_pos hc148 ?_ | (refine bif_pos (by have q := hc148; simp only [List.length_set] at q; exact q) ?_)
                                have hs147 : List.take ((IntKind.i64.wrap ((IntKind.i64.wrap ((IntKind.i64.wrap ((IntKind.i64.wrap ((((s30).length : Nat) : Int) - 1)) + 1)) - ((y73).1))) + 1)).toNat) (List.map encI (List.set s30 (IntKind.i64.wrap ((IntKind.i64.wrap ((IntKind.i64.wrap ((((s30).length : Nat) : Int) - 1)) + 1)) - ((y73).1))).toNat y143)) = List.map encI (List.take ((IntKind.i64.wrap ((IntKind.i64.wrap ((IntKind.i64.wrap ((IntKind.i64.wrap ((((s30).length : Nat) : Int) - 1)) + 1)) - ((y73).1))) + 1)).toNat) (List.set s30 (IntKind.i64.wrap ((IntKind.i64.wrap ((IntKind.i64.wrap ((((s30).length : Nat) : Int) - 1)) + 1)) - ((y73).1))).toNat y143)) := by rw [List.map_take]
                                have hs147_l : List.length (List.take ((IntKind.i64.wrap ((IntKind.i64.wrap ((IntKind.i64.wrap ((IntKind.i64.wrap ((((s30).length : Nat) : Int) - 1)) + 1)) - ((y73).1))) + 1)).toNat) (List.set s30 (IntKind.i64.wrap ((IntKind.i64.wrap ((IntKind.i64.wrap ((((s30).length : Nat) : Int) - 1)) + 1)) - ((y73).1))).toNat y143)) = (IntKind.i64.wrap ((IntKind.i64.wrap ((IntKind.i64.wrap ((IntKind.i64.wrap ((((s30).length : Nat) : Int) - 1)) + 1)) - ((y73).1))) + 1)).toNat := by simp only [List.length_take]; exact Nat.min_eq_left (cut_le hc148)
                                conv => lhs; whnf
                                try simp only [dec_self, hs147]
                                conv => lhs; whnf
                                try simp only [hs147]
                                have hs147_s : ∀ q, AV.stk 1 q ((IntKind.i64.wrap ((IntKind.i64.wrap ((IntKind.i64.wrap ((IntKind.i64.wrap ((((s30).length : Nat) : Int) - 1)) + 1)) - ((y73).1))) + 1)).toNat) = AV.stk 1 q (List.length (List.take ((IntKind.i64.wrap ((IntKind.i64.wrap ((IntKind.i64.wrap ((IntKind.i64.wrap ((((s30).length : Nat) : Int) - 1)) + 1)) - ((y73).1))) + 1)).toNat) (List.set s30 (IntKind.i64.wrap ((IntKind.i64.wrap ((IntKind.i64.wrap ((((s30).length : Nat) : Int) - 1)) + 1)) - ((y73).1))).toNat y143))) := fun q => by rw [hs147_l]
                                try simp only [hs147_s]
                                conv => lhs; whnf
                                exact cq (hcont36 (IntKind.i64.wrap (s29 + 1), (List.take ((IntKind.i64.wrap ((IntKind.i64.wrap ((IntKind.i64.wrap ((IntKind.i64.wrap ((((s30).length : Nat) : Int) - 1)) + 1)) - ((y73).1))) + 1)).toNat) (List.set s30 (IntKind.i64.wrap ((IntKind.i64.wrap ((IntKind.i64.wrap ((((s30).length : Nat) : Int) - 1)) + 1)) - ((y73).1))).toNat y143))) (fun j => (bif Nat.beq j 1 then ((a32 1) + 1) else 0)) hm)
                              | c10 y74 =>
                                dsimp only at hm
                                have hk63 : call false 37 [AV.int .i64 (x40.op)] [] = some (AV.tup [AV.agg [AV.int .i64 ((y74).1), AV.func 49 [] []], AV.bool ((y74).2)], []) := (hc _ _ _).trans (ok_code_of n x40.op (.c10 y74) hy62)
                                try simp only [List.drop_zero, ls]
                                first | simp only [hk63] | rewrite [hk63]
                                try simp only [ls]
                                conv => lhs; whnf
                                refine bind_some2 hm ?_; clear hm; intro x149 hx149 hm
                                try simp only [dec_self]
                                conv => lhs; whnf
                                try simp only [ls]
                                refine bif_pos (by first | exact idx_in hx149 | exact idx_in' hx149 | exact own_in hx149 | exact own_in' hx149 | (have q := idx_in hx149; simp only [List.length_set] at q; exact q) | (have q := own_in' hx149; simp only [List.length_set, Nat.zero_add] at q ⊢; exact q)) ?_
                                conv => lhs; whnf
                                try simp only [idx_nth (f := encI) hx149, dec_self, ls]
                                conv => lhs; whnf
                                refine bind_some2 hm ?_; clear hm; intro x150 hx150 hm
                                try simp only [dec_self]
                                conv => lhs; whnf
                                try simp only [ls]
                                refine bif_pos (by first | exact idx_in hx150 | exact idx_in' hx150 | exact own_in hx150 | exact own_in' hx150 | (have q := idx_in hx150; simp only [List.length_set] at q; exact q) | (have q := own_in' hx150; simp only [List.length_set, Nat.zero_add] at q ⊢; exact q)) ?_
                                conv => lhs; whnf
                                try simp only [idx_nth (f := encI) hx150, dec_self, ls]
                                conv => lhs; whnf
                                refine bind_some2 hm ?_; clear hm; intro y151 hy151 hm
                                have hk152 : call false 49 [AV.int .i64 (x149), AV.int .i64 (x150), AV.int .i64 (v1_mod)] [] = some (AV.int .i64 (y151), []) := (hc _ _ _).trans (ok_code_of_1 n x149 x150 v1_mod y151 hy151)
                                try simp only [List.drop_zero, ls]
                                first | simp only [hk152] | rewrite [hk152]
                                try simp only [ls]
                                conv => lhs; whnf
                                refine bind_some2 hm ?_; clear hm; intro x153 hx153 hm
                                try simp only [dec_self]
                                conv => lhs; whnf
                                try simp only [ls]
                                refine bif_pos (by first | exact idx_in hx153 | exact idx_in' hx153 | exact own_in hx153 | exact own_in' hx153 | (have q := idx_in hx153; simp only [List.length_set] at q; exact q) | (have q := own_in' hx153; simp only [List.length_set, Nat.zero_add] at q ⊢; exact q)) ?_
                                conv => lhs; whnf
                                try simp only [idx_nth (f := encI) hx153, dec_self, ls]
                                conv => lhs; whnf
                                have hs154 : setNth (List.map encI s30) (IntKind.i64.wrap ((IntKind.i64.wrap ((IntKind.i64.wrap ((((s30).length : Nat) : Int) - 1)) + 1)) - ((y74).1))).toNat [AV.int .i64 (y151)] = List.map encI (List.set s30 (IntKind.i64.wrap ((IntKind.i64.wrap ((IntKind.i64.wrap ((((s30).length : Nat) : Int) - 1)) + 1)) - ((y74).1))).toNat y151) := by rw [setNth_eq, List.map_set]; rfl
                                have hs154_u : setNth (List.map encI s30) (IntKind.i64.wrap ((IntKind.i64.wrap ((IntKind.i64.wrap ((((s30).length : Nat) : Int) - 1)) + 1)) - ((y74).1))).toNat (updL (encI x153) 0 [AV.int .i64 (y151)]) = List.map encI (List.set s30 (IntKind.i64.wrap ((IntKind.i64.wrap ((IntKind.i64.wrap ((((s30).length : Nat) : Int) - 1)) + 1)) - ((y74).1))).toNat y151) := by rw [setNth_eq, List.map_set]; rfl
                                try simp only [idx_nth (f := encI) hx153, dec_self]
                                conv => lhs; whnf
                                try simp only [hs154, hs154_u, dec_self]
                                conv => lhs; whnf
                                refine chk_some2 hm ?_; clear hm; intro hc156 hm
                                try simp only [dec_self]
                                conv => lhs; whnf
                                try simp only [ls]
                                first | refine bif_pos hc156 ?_ | (refine bif_pos (by have q := hc156; simp only [List.length_set] at q; exact q) ?_)
                                have hs155 : List.take ((IntKind.i64.wrap ((IntKind.i64.wrap ((IntKind.i64.wrap ((IntKind.i64.wrap ((((s30).length : Nat) : Int) - 1)) + 1)) - ((y74).1))) + 1)).toNat) (List.map encI (List.set s30 (IntKind.i64.wrap ((IntKind.i64.wrap ((IntKind.i64.wrap ((((s30).length : Nat) : Int) - 1)) + 1)) - ((y74).1))).toNat y151)) = List.map encI (List.take ((IntKind.i64.wrap ((IntKind.i64.wrap ((IntKind.i64.wrap ((IntKind.i64.wrap ((((s30).length : Nat) : Int) - 1)) + 1)) - ((y74).1))) + 1)).toNat) (List.set s30 (IntKind.i64.wrap ((IntKind.i64.wrap ((IntKind.i64.wrap ((((s30).length : Nat) : Int) - 1)) + 1)) - ((y74).1))).toNat y151)) := by rw [List.map_take]
                                have hs155_l : List.length (List.take ((IntKind.i64.wrap ((IntKind.i64.wrap ((IntKind.i64.wrap ((IntKind.i64.wrap ((((s30).length : Nat) : Int) - 1)) + 1)) - ((y74).1))) + 1)).toNat) (List.set s30 (IntKind.i64.wrap ((IntKind.i64.wrap ((IntKind.i64.wrap ((((s30).length : Nat) : Int) - 1)) + 1)) - ((y74).1))).toNat y151)) = (IntKind.i64.wrap ((IntKind.i64.wrap ((IntKind.i64.wrap ((IntKind.i64.wrap ((((s30).length : Nat) : Int) - 1)) + 1)) - ((y74).1))) + 1)).toNat := by simp only [List.length_take]; exact Nat.min_eq_left (cut_le hc156)
                                conv => lhs; whnf
                                try simp only [dec_self, hs155]
                                conv => lhs; whnf
                                try simp only [hs155]
                                have hs155_s : ∀ q, AV.stk 1 q ((IntKind.i64.wrap ((IntKind.i64.wrap ((IntKind.i64.wrap ((IntKind.i64.wrap ((((s30).length : Nat) : Int) - 1)) + 1)) - ((y74).1))) + 1)).toNat) = AV.stk 1 q (List.length (List.take ((IntKind.i64.wrap ((IntKind.i64.wrap ((IntKind.i64.wrap ((IntKind.i64.wrap ((((s30).length : Nat) : Int) - 1)) + 1)) - ((y74).1))) + 1)).toNat) (List.set s30 (IntKind.i64.wrap ((IntKind.i64.wrap ((IntKind.i64.wrap ((((s30).length : Nat) : Int) - 1)) + 1)) - ((y74).1))).toNat y151))) := fun q => by rw [hs155_l]
                                try simp only [hs155_s]
                                conv => lhs; whnf
                                exact cq (hcont36 (IntKind.i64.wrap (s29 + 1), (List.take ((IntKind.i64.wrap ((IntKind.i64.wrap ((IntKind.i64.wrap ((IntKind.i64.wrap ((((s30).length : Nat) : Int) - 1)) + 1)) - ((y74).1))) + 1)).toNat) (List.set s30 (IntKind.i64.wrap ((IntKind.i64.wrap ((IntKind.i64.wrap ((((s30).length : Nat) : Int) - 1)) + 1)) - ((y74).1))).toNat y151))) (fun j => (bif Nat.beq j 1 then ((a32 1) + 1) else 0)) hm)
                    · simp only [hc39, ls]
                      conv => lhs; whnf
                      have hq := Option.some.inj hm; clear hm; subst hq
                      exact kq (hr37 (fun j => (bif Nat.beq j 1 then (a32 1) else 0)))
                  · cases o38 with
                    | ret v =>
                      have hq := Option.some.inj hm; clear hm; subst hq
                      rfl
                    | out t =>
                      obtain ⟨x158, rfl⟩ : ∃ x, x = t := ⟨_, rfl⟩
                      intro a157
                      dsimp only at hm
                      conv => lhs; whnf
                      refine bind_some2 hm ?_; clear hm; intro x159 hx159 hm
                      try simp only [dec_self]
                      conv => lhs; whnf
                      try simp only [ls]
                      refine bif_pos (by first | exact idx_in hx159 | exact idx_in' hx159 | exact own_in hx159 | exact own_in' hx159 | (have q := idx_in hx159; simp only [List.length_set] at q; exact q) | (have q := own_in' hx159; simp only [List.length_set, Nat.zero_add] at q ⊢; exact q)) ?_
                      conv => lhs; whnf
                      try simp only [idx_nth (f := encI) hx159, dec_self, ls]
                      conv => lhs; whnf
                      have hq := Option.some.inj hm; clear hm; subst hq
                      try simp only [ls]
                      exact fq (y := some (AV.tup [AV.int .i64 (x159), AV.bool (true)], []))
                · simp only [hc28, ls]
                  conv => lhs; whnf
                  have hq := Option.some.inj hm; clear hm; subst hq
                  try simp only [ls]
                  exact fq (y := some (AV.tup [AV.int .i64 (0), AV.bool (false)], []))
          · simp only [hc8, ls]
            conv => lhs; whnf
            have hq := Option.some.inj hm; clear hm; subst hq
            try simp only [ls]
            exact fq (y := some (AV.tup [AV.int .i64 (0), AV.bool (false)], []))
        · simp only [hc5, ls]
          conv => lhs; whnf
          have hq := Option.some.inj hm; clear hm; subst hq
          try simp only [ls]
          exact fq (y := some (AV.tup [AV.int .i64 (0), AV.bool (false)], []))
end Go.Proofs.Ytmnnkeejgkhgpaa
end

section
namespace Go.Proofs.Ytmnnkeejgkhgpaa
set_option linter.unusedVariables false
set_option linter.unusedSimpArgs false
set_option maxRecDepth 100000

set_option maxHeartbeats 4000000 in
theorem ok_law06_lengths (n : Nat) : ∀ (v0_s : S_law06_State) (r : (List Int)), m_law06_lengths n v0_s = some r → callN Try.prog HH XT n 22 [AV.agg [AV.int .i64 (v0_s.f_Mod), AV.sl 1 (List.map encI (v0_s.f_Own)), AV.sl 1 (List.map encRow (v0_s.f_All)), AV.sl 1 (List.map encI (v0_s.f_Mem))]] [] = some (AV.sl 1 (List.map encI (r)), []) := by
  cases n with
  | zero => intro v0_s r hm; exact absurd hm (by intro h; cases h)
  | succ n =>
    intro v0_s r hm
    rw [m_law06_lengths] at hm
    refine callN_eq' Try.func22 (by rfl) rfl rfl (Nat.le_of_ble_eq_true rfl) ?_
    intro call hc
    conv => lhs; whnf
    refine bind_some2 hm ?_; clear hm; intro o10 ho10 hm
    refine rounds_sim (σ := (Int × (List Int))) (τ := (List Int)) (ν := (List Int)) 0 (fun (s1, s2) a4 => stOf 22 [(1, AV.ptr 0 0), (3, AV.row 1 (List.length (s2))), (4, AV.int .i64 (s1))]) (fun (s1, s2) a4 => [Ob.var 41 [AV.int .i64 (v0_s.f_Mod), AV.sl 1 (List.map encI (v0_s.f_Own)), AV.sl 1 (List.map encRow (v0_s.f_All)), AV.sl 1 (List.map encI (v0_s.f_Mem))], Ob.row 3 1 (List.map encI (s2))]) (fun x17 a16 => stOf 22 [(3, AV.row 1 (List.length (x17)))]) (fun x17 a16 => [Ob.var 41 [AV.int .i64 (v0_s.f_Mod), AV.sl 1 (List.map encI (v0_s.f_Own)), AV.sl 1 (List.map encRow (v0_s.f_All)), AV.sl 1 (List.map encI (v0_s.f_Mem))], Ob.row 3 1 (List.map encI (x17))]) (fun v => (AV.sl 1 (List.map encI (v)), [])) (fun k s => law06_lengths_L0 n v0_s k ((s).1) ((s).2)) (fun s => rfl) o10 ?_ n (0, ([] : List Int)) (fun _ => 0) _ _ ho10 ?_ (by first | rfl | (simp only [ls, List.map_append, List.map_cons, List.map_nil, List.append_nil, List.length_set, length_copyL] <;> rfl)) (by first | rfl | (simp only [ls, List.map_append, List.map_cons, List.map_nil, List.append_nil, List.length_set, length_copyL] <;> rfl))
    · intro k3 ss a4 K5 cont6 hK7 hcont8 hm hr9
      obtain ⟨s1, s2⟩ := ss
      replace hm : law06_lengths_L0 n v0_s (k3 + 1) s1 s2 = some o10 := hm
      rw [law06_lengths_L0] at hm
      conv => lhs; whnf
      refine bif_or2 hm ?_ ?_ <;> clear hm <;> intro hc11 hm
      · simp only [hc11, ls]
        conv => lhs; whnf
        refine bind_some2 hm ?_; clear hm; intro x12 hx12 hm
        refine bif_pos (by first | exact idx_in hx12 | exact idx_in' hx12) ?_
        simp only [idx_nth (f := encRow) hx12, ls]
        conv => lhs; whnf
        refine chk_some2 hm ?_; clear hm; intro hc15 hm
        refine bif_pos (app_row hc15 (by first | rfl | simp only [List.length_map]) (by first | rfl | simp only [List.length_map]) (by first | rfl | simp only [List.length_map, take_map_len]) (by kernel_rfl)) ?_
        try simp only [lt]
        have hp13 : (List.map encI (s2) : List (List AV)) ++ [[AV.int .i64 ((((x12).length : Nat) : Int))]] = List.map encI (s2 ++ ([(((x12).length : Nat) : Int)] : List Int)) := by first | rfl | (rw [List.map_append]; rfl) | (rw [List.map_append]; done) | (simp only [List.map_append, List.map_cons, List.map_nil, List.nil_append, encI] <;> rfl)
        have hl14 : List.length (List.map encI (s2) : List (List AV)) + List.length ([[AV.int .i64 ((((x12).length : Nat) : Int))]] : List (List AV)) = List.length (s2 ++ ([(((x12).length : Nat) : Int)] : List Int)) := by simp only [List.length_map, List.length_append] <;> rfl
        have hl14_b : List.length s2 + List.length ([[AV.int .i64 ((((x12).length : Nat) : Int))]] : List (List AV)) = List.length (s2 ++ ([(((x12).length : Nat) : Int)] : List Int)) := by simp only [List.length_map, List.length_append] <;> rfl
        have hl14_c : List.length s2 + List.length ([(((x12).length : Nat) : Int)] : List Int) = List.length (s2 ++ ([(((x12).length : Nat) : Int)] : List Int)) := by simp only [List.length_map, List.length_append] <;> rfl
        first | simp only [hp13, hl14] | (simp only [List.length_map, take_map_len]; simp only [hp13, hl14_b, hl14_c])
        try simp only [ls]
        conv => lhs; whnf
        exact cq (hcont8 (IntKind.i64.wrap (s1 + 1), (s2 ++ ([(((x12).length : Nat) : Int)] : List Int))) (fun _ => 0) hm)
      · simp only [hc11, ls]
        conv => lhs; whnf
        have hq := Option.some.inj hm; clear hm; subst hq
        exact kq (hr9 (fun _ => 0))
    · cases o10 with
      | ret v =>
        have hq := Option.some.inj hm; clear hm; subst hq
        rfl
      | out t =>
        obtain ⟨x17, rfl⟩ : ∃ x, x = t := ⟨_, rfl⟩
        intro a16
        dsimp only at hm
        conv => lhs; whnf
        have hq := Option.some.inj hm; clear hm; subst hq
        try simp only [ls]
        exact fq (y := some (AV.sl 1 (List.take (List.length (x17)) (List.map encI (x17))), []))
end Go.Proofs.Ytmnnkeejgkhgpaa
end

section
namespace Go.Proofs.Ytmnnkeejgkhgpaa
set_option linter.unusedVariables false
set_option linter.unusedSimpArgs false
set_option maxRecDepth 100000

set_option maxHeartbeats 4000000 in
theorem ok_law06_light (n : Nat) : ∀ (v0_s : S_law06_State) (r : Bool), m_law06_light n v0_s = some r → callN Try.prog HH XT n 16 [AV.agg [AV.int .i64 (v0_s.f_Mod), AV.sl 1 (List.map encI (v0_s.f_Own)), AV.sl 1 (List.map encRow (v0_s.f_All)), AV.sl 1 (List.map encI (v0_s.f_Mem))]] [] = some (AV.bool (r), []) := by
  cases n with
  | zero => intro v0_s r hm; exact absurd hm (by intro h; cases h)
  | succ n =>
    intro v0_s r hm
    rw [m_law06_light] at hm
    refine callN_eq' Try.func16 (by rfl) rfl rfl (Nat.le_of_ble_eq_true rfl) ?_
    intro call hc
    conv => lhs; whnf
    refine bif_or2 hm ?_ ?_ <;> clear hm <;> intro hc1 hm
    · simp only [hc1, ls]
      conv => lhs; whnf
      have hq := Option.some.inj hm; clear hm; subst hq
      try simp only [ls]
      exact fq (y := some (AV.bool (false), []))
    · simp only [hc1, ls]
      conv => lhs; whnf
      refine bif_or2 hm ?_ ?_ <;> clear hm <;> intro hc2 hm
      · simp only [hc2, ls]
        conv => lhs; whnf
        have hq := Option.some.inj hm; clear hm; subst hq
        try simp only [ls]
        exact fq (y := some (AV.bool (false), []))
      · simp only [hc2, ls]
        conv => lhs; whnf
        refine bif_or2 hm ?_ ?_ <;> clear hm <;> intro hc3 hm
        · simp only [hc3, ls]
          conv => lhs; whnf
          have hq := Option.some.inj hm; clear hm; subst hq
          try simp only [ls]
          exact fq (y := some (AV.bool (false), []))
        · simp only [hc3, ls]
          conv => lhs; whnf
          refine bind_some2 hm ?_; clear hm; intro o12 ho12 hm
          refine rounds_sim (σ := Int) (τ := Unit) (ν := Bool) 0 (fun s4 a6 => stOf 34 [(1, AV.ptr 0 0), (3, AV.int .i64 (s4))]) (fun s4 a6 => [Ob.var 41 [AV.int .i64 (v0_s.f_Mod), AV.sl 1 (List.map encI (v0_s.f_Own)), AV.sl 1 (List.map encRow (v0_s.f_All)), AV.sl 1 (List.map encI (v0_s.f_Mem))]]) (fun _ a16 => stOf 34 []) (fun _ a16 => [Ob.var 41 [AV.int .i64 (v0_s.f_Mod), AV.sl 1 (List.map encI (v0_s.f_Own)), AV.sl 1 (List.map encRow (v0_s.f_All)), AV.sl 1 (List.map encI (v0_s.f_Mem))]]) (fun v => (AV.bool (v), [])) (fun k s => law06_light_L0 n v0_s k s) (fun s => rfl) o12 ?_ n 0 (fun _ => 0) _ _ ho12 ?_ (by first | rfl | (simp only [ls, List.map_append, List.map_cons, List.map_nil, List.append_nil, List.length_set, length_copyL] <;> rfl)) (by first | rfl | (simp only [ls, List.map_append, List.map_cons, List.map_nil, List.append_nil, List.length_set, length_copyL] <;> rfl))
          · intro k5 ss a6 K7 cont8 hK9 hcont10 hm hr11
            obtain ⟨s4, rfl⟩ : ∃ x, x = ss := ⟨_, rfl⟩
            replace hm : law06_light_L0 n v0_s (k5 + 1) s4 = some o12 := hm
            rw [law06_light_L0] at hm
            conv => lhs; whnf
            refine bif_or2 hm ?_ ?_ <;> clear hm <;> intro hc13 hm
            · simp only [hc13, ls]
              conv => lhs; whnf
              refine bind_some2 hm ?_; clear hm; intro x14 hx14 hm
              refine bif_pos (by first | exact idx_in hx14 | exact idx_in' hx14) ?_
              simp only [idx_nth (f := encRow) hx14, ls]
              conv => lhs; whnf
              refine bif_or2 hm ?_ ?_ <;> clear hm <;> intro hc15 hm
              · simp only [hc15, ls]
                conv => lhs; whnf
                have hq := Option.some.inj hm; clear hm; subst hq
                refine (hK9 _ _).trans ?_
                refine Eq.trans ?_ (Eq.symm (show _ = some _ from hr11))
                conv => lhs; whnf
                try simp only [ls]
                exact fq (y := some (AV.bool (false), []))
              · simp only [hc15, ls]
                conv => lhs; whnf
                exact cq (hcont10 (IntKind.i64.wrap (s4 + 1)) (fun _ => 0) hm)
            · simp only [hc13, ls]
              conv => lhs; whnf
              have hq := Option.some.inj hm; clear hm; subst hq
              exact kq (hr11 (fun _ => 0))
          · cases o12 with
            | ret v =>
              have hq := Option.some.inj hm; clear hm; subst hq
              rfl
            | out t =>
              intro a16
              dsimp only at hm
              conv => lhs; whnf
              have hq := Option.some.inj hm; clear hm; subst hq
              try simp only [ls]
              exact fq (y := some (AV.bool (true), []))
end Go.Proofs.Ytmnnkeejgkhgpaa
end

section
namespace Go.Proofs.Ytmnnkeejgkhgpaa
set_option linter.unusedVariables false
set_option linter.unusedSimpArgs false
set_option maxRecDepth 100000

set_option maxHeartbeats 4000000 in
theorem ok_ref06_lies (n : Nat) : ∀ (v0_l : (List OpS)) (r : (Int × Int)), m_ref06_lies n v0_l = some r → callN Try.prog HH XT n 42 [AV.sl 3 (List.map encOp (v0_l))] [] = some (AV.tup [AV.int .i64 ((r).1), AV.int .i64 ((r).2)], []) := by
  cases n with
  | zero => intro v0_l r hm; exact absurd hm (by intro h; cases h)
  | succ n =>
    intro v0_l r hm
    rw [m_ref06_lies] at hm
    refine callN_eq' Try.func42 (by rfl) rfl rfl (Nat.le_of_ble_eq_true rfl) ?_
    intro call hc
    conv => lhs; whnf
    refine bind_some2 hm ?_; clear hm; intro o11 ho11 hm
    refine rounds_sim (σ := (Int × Int × Int)) (τ := (Int × Int)) (ν := (Int × Int)) 0 (fun (s1, s2, s3) a5 => stOf 53 [(0, AV.sl 3 (List.map encOp (v0_l))), (4, AV.int .i64 (s1)), (5, AV.int .i64 (s2)), (6, AV.int .i64 (s3))]) (fun (s1, s2, s3) a5 => []) (fun (x33, x34) a32 => stOf 53 [(4, AV.int .i64 (x33)), (5, AV.int .i64 (x34))]) (fun (x33, x34) a32 => []) (fun v => (AV.tup [AV.int .i64 ((v).1), AV.int .i64 ((v).2)], [])) (fun k s => ref06_lies_L0 n v0_l k ((s).1) ((s).2.1) ((s).2.2)) (fun s => rfl) o11 ?_ n (0, 0, 0) (fun _ => 0) _ _ ho11 ?_ (by first | rfl | (simp only [ls, List.map_append, List.map_cons, List.map_nil, List.append_nil, List.length_set, length_copyL] <;> rfl)) (by first | rfl | (simp only [ls, List.map_append, List.map_cons, List.map_nil, List.append_nil, List.length_set, length_copyL] <;> rfl))
    · intro k4 ss a5 K6 cont7 hK8 hcont9 hm hr10
      obtain ⟨s1, s2, s3⟩ := ss
      replace hm : ref06_lies_L0 n v0_l (k4 + 1) s1 s2 s3 = some o11 := hm
      rw [ref06_lies_L0] at hm
      conv => lhs; whnf
      refine bif_or2 hm ?_ ?_ <;> clear hm <;> intro hc12 hm
      · simp only [hc12, ls]
        conv => lhs; whnf
        refine bind_some2 hm ?_; clear hm; intro x13 hx13 hm
        refine bif_pos (by first | exact idx_in hx13 | exact idx_in' hx13) ?_
        simp only [idx_nth (f := encOp) hx13, ls]
        conv => lhs; whnf
        refine bif_or2 hm ?_ ?_ <;> clear hm <;> intro hc14 hm
        · simp only [hc14, ls]
          conv => lhs; whnf
          refine bif_or2 hm ?_ ?_ <;> clear hm <;> intro hc15 hm
          · simp only [hc15, ls]
            conv => lhs; whnf
            exact cq (hcont9 (IntKind.i64.wrap (s1 + 1), (if s2 < (IntKind.i64.wrap (s1 + 1)) then (IntKind.i64.wrap (s1 + 1)) else s2), IntKind.i64.wrap (s3 + 1)) (fun _ => 0) hm)
          · simp only [hc15, ls]
            conv => lhs; whnf
            refine bif_or2 hm ?_ ?_ <;> clear hm <;> intro hc16 hm
            · simp only [hc16, ls]
              conv => lhs; whnf
              refine bif_or2 hm ?_ ?_ <;> clear hm <;> intro hc17 hm
              · simp only [hc17, ls]
                conv => lhs; whnf
                exact cq (hcont9 (s1, (if s2 < s1 then s1 else s2), IntKind.i64.wrap (s3 + 1)) (fun _ => 0) hm)
              · simp only [hc17, ls]
                conv => lhs; whnf
                refine bif_or2 hm ?_ ?_ <;> clear hm <;> intro hc18 hm
                · simp only [hc18, ls]
                  conv => lhs; whnf
                  refine bif_or2 hm ?_ ?_ <;> clear hm <;> intro hc19 hm
                  · simp only [hc19, ls]
                    conv => lhs; whnf
                    refine bif_or2 hm ?_ ?_ <;> clear hm <;> intro hc20 hm
                    · simp only [hc20, ls]
                      conv => lhs; whnf
                      exact cq (hcont9 (IntKind.i64.wrap (s1 - 1), (if s2 < (IntKind.i64.wrap (s1 - 1)) then (IntKind.i64.wrap (s1 - 1)) else s2), IntKind.i64.wrap (s3 + 1)) (fun _ => 0) hm)
                    · simp only [hc20, ls]
                      conv => lhs; whnf
                      have hq := Option.some.inj hm; clear hm; subst hq
                      refine (hK8 _ _).trans ?_
                      refine Eq.trans ?_ (Eq.symm (show _ = some _ from hr10))
                      conv => lhs; whnf
                      try simp only [ls]
                      exact fq (y := some (AV.tup [AV.int .i64 ((-1)), AV.int .i64 ((-1))], []))
                  · simp only [hc19, ls]
                    conv => lhs; whnf
                    have hq := Option.some.inj hm; clear hm; subst hq
                    refine (hK8 _ _).trans ?_
                    refine Eq.trans ?_ (Eq.symm (show _ = some _ from hr10))
                    conv => lhs; whnf
                    try simp only [ls]
                    exact fq (y := some (AV.tup [AV.int .i64 ((-1)), AV.int .i64 ((-1))], []))
                · simp only [hc18, ls]
                  conv => lhs; whnf
                  have hq := Option.some.inj hm; clear hm; subst hq
                  refine (hK8 _ _).trans ?_
                  refine Eq.trans ?_ (Eq.symm (show _ = some _ from hr10))
                  conv => lhs; whnf
                  try simp only [ls]
                  exact fq (y := some (AV.tup [AV.int .i64 ((-1)), AV.int .i64 ((-1))], []))
            · simp only [hc16, ls]
              conv => lhs; whnf
              refine bif_or2 hm ?_ ?_ <;> clear hm <;> intro hc21 hm
              · simp only [hc21, ls]
                conv => lhs; whnf
                refine bif_or2 hm ?_ ?_ <;> clear hm <;> intro hc22 hm
                · simp only [hc22, ls]
                  conv => lhs; whnf
                  refine bif_or2 hm ?_ ?_ <;> clear hm <;> intro hc23 hm
                  · simp only [hc23, ls]
                    conv => lhs; whnf
                    exact cq (hcont9 (IntKind.i64.wrap (s1 - 1), (if s2 < (IntKind.i64.wrap (s1 - 1)) then (IntKind.i64.wrap (s1 - 1)) else s2), IntKind.i64.wrap (s3 + 1)) (fun _ => 0) hm)
                  · simp only [hc23, ls]
                    conv => lhs; whnf
                    have hq := Option.some.inj hm; clear hm; subst hq
                    refine (hK8 _ _).trans ?_
                    refine Eq.trans ?_ (Eq.symm (show _ = some _ from hr10))
                    conv => lhs; whnf
                    try simp only [ls]
                    exact fq (y := some (AV.tup [AV.int .i64 ((-1)), AV.int .i64 ((-1))], []))
                · simp only [hc22, ls]
                  conv => lhs; whnf
                  have hq := Option.some.inj hm; clear hm; subst hq
                  refine (hK8 _ _).trans ?_
                  refine Eq.trans ?_ (Eq.symm (show _ = some _ from hr10))
                  conv => lhs; whnf
                  try simp only [ls]
                  exact fq (y := some (AV.tup [AV.int .i64 ((-1)), AV.int .i64 ((-1))], []))
              · simp only [hc21, ls]
                conv => lhs; whnf
                have hq := Option.some.inj hm; clear hm; subst hq
                refine (hK8 _ _).trans ?_
                refine Eq.trans ?_ (Eq.symm (show _ = some _ from hr10))
                conv => lhs; whnf
                try simp only [ls]
                exact fq (y := some (AV.tup [AV.int .i64 ((-1)), AV.int .i64 ((-1))], []))
        · simp only [hc14, ls]
          conv => lhs; whnf
          refine bif_or2 hm ?_ ?_ <;> clear hm <;> intro hc24 hm
          · simp only [hc24, ls]
            conv => lhs; whnf
            refine bif_or2 hm ?_ ?_ <;> clear hm <;> intro hc25 hm
            · simp only [hc25, ls]
              conv => lhs; whnf
              exact cq (hcont9 (s1, (if s2 < s1 then s1 else s2), IntKind.i64.wrap (s3 + 1)) (fun _ => 0) hm)
            · simp only [hc25, ls]
              conv => lhs; whnf
              refine bif_or2 hm ?_ ?_ <;> clear hm <;> intro hc26 hm
              · simp only [hc26, ls]
                conv => lhs; whnf
                refine bif_or2 hm ?_ ?_ <;> clear hm <;> intro hc27 hm
                · simp only [hc27, ls]
                  conv => lhs; whnf
                  refine bif_or2 hm ?_ ?_ <;> clear hm <;> intro hc28 hm
                  · simp only [hc28, ls]
                    conv => lhs; whnf
                    exact cq (hcont9 (IntKind.i64.wrap (s1 - 1), (if s2 < (IntKind.i64.wrap (s1 - 1)) then (IntKind.i64.wrap (s1 - 1)) else s2), IntKind.i64.wrap (s3 + 1)) (fun _ => 0) hm)
                  · simp only [hc28, ls]
                    conv => lhs; whnf
                    have hq := Option.some.inj hm; clear hm; subst hq
                    refine (hK8 _ _).trans ?_
                    refine Eq.trans ?_ (Eq.symm (show _ = some _ from hr10))
                    conv => lhs; whnf
                    try simp only [ls]
                    exact fq (y := some (AV.tup [AV.int .i64 ((-1)), AV.int .i64 ((-1))], []))
                · simp only [hc27, ls]
                  conv => lhs; whnf
                  have hq := Option.some.inj hm; clear hm; subst hq
                  refine (hK8 _ _).trans ?_
                  refine Eq.trans ?_ (Eq.symm (show _ = some _ from hr10))
                  conv => lhs; whnf
                  try simp only [ls]
                  exact fq (y := some (AV.tup [AV.int .i64 ((-1)), AV.int .i64 ((-1))], []))
              · simp only [hc26, ls]
                conv => lhs; whnf
                have hq := Option.some.inj hm; clear hm; subst hq
                refine (hK8 _ _).trans ?_
                refine Eq.trans ?_ (Eq.symm (show _ = some _ from hr10))
                conv => lhs; whnf
                try simp only [ls]
                exact fq (y := some (AV.tup [AV.int .i64 ((-1)), AV.int .i64 ((-1))], []))
          · simp only [hc24, ls]
            conv => lhs; whnf
            refine bif_or2 hm ?_ ?_ <;> clear hm <;> intro hc29 hm
            · simp only [hc29, ls]
              conv => lhs; whnf
              refine bif_or2 hm ?_ ?_ <;> clear hm <;> intro hc30 hm
              · simp only [hc30, ls]
                conv => lhs; whnf
                refine bif_or2 hm ?_ ?_ <;> clear hm <;> intro hc31 hm
                · simp only [hc31, ls]
                  conv => lhs; whnf
                  exact cq (hcont9 (IntKind.i64.wrap (s1 - 1), (if s2 < (IntKind.i64.wrap (s1 - 1)) then (IntKind.i64.wrap (s1 - 1)) else s2), IntKind.i64.wrap (s3 + 1)) (fun _ => 0) hm)
                · simp only [hc31, ls]
                  conv => lhs; whnf
                  have hq := Option.some.inj hm; clear hm; subst hq
                  refine (hK8 _ _).trans ?_
                  refine Eq.trans ?_ (Eq.symm (show _ = some _ from hr10))
                  conv => lhs; whnf
                  try simp only [ls]
                  exact fq (y := some (AV.tup [AV.int .i64 ((-1)), AV.int .i64 ((-1))], []))
              · simp only [hc30, ls]
                conv => lhs; whnf
                have hq := Option.some.inj hm; clear hm; subst hq
                refine (hK8 _ _).trans ?_
                refine Eq.trans ?_ (Eq.symm (show _ = some _ from hr10))
                conv => lhs; whnf
                try simp only [ls]
                exact fq (y := some (AV.tup [AV.int .i64 ((-1)), AV.int .i64 ((-1))], []))
            · simp only [hc29, ls]
              conv => lhs; whnf
              have hq := Option.some.inj hm; clear hm; subst hq
              refine (hK8 _ _).trans ?_
              refine Eq.trans ?_ (Eq.symm (show _ = some _ from hr10))
              conv => lhs; whnf
              try simp only [ls]
              exact fq (y := some (AV.tup [AV.int .i64 ((-1)), AV.int .i64 ((-1))], []))
      · simp only [hc12, ls]
        conv => lhs; whnf
        have hq := Option.some.inj hm; clear hm; subst hq
        exact kq (hr10 (fun _ => 0))
    · cases o11 with
      | ret v =>
        have hq := Option.some.inj hm; clear hm; subst hq
        rfl
      | out t =>
        obtain ⟨x33, x34⟩ := t
        intro a32
        dsimp only at hm
        conv => lhs; whnf
        have hq := Option.some.inj hm; clear hm; subst hq
        try simp only [ls]
        exact fq (y := some (AV.tup [AV.int .i64 (x33), AV.int .i64 (x34)], []))

set_option maxHeartbeats 4000000 in
theorem ok_ref06_Depth (n : Nat) : ∀ (v0_l : (List OpS)) (r : Int), m_ref06_Depth n v0_l = some r → callN Try.prog HH XT n 20 [AV.sl 3 (List.map encOp (v0_l))] [] = some (AV.int .i64 (r), []) := by
  cases n with
  | zero => intro v0_l r hm; exact absurd hm (by intro h; cases h)
  | succ n =>
    intro v0_l r hm
    rw [m_ref06_Depth] at hm
    refine callN_eq' Try.func20 (by rfl) rfl rfl (Nat.le_of_ble_eq_true rfl) ?_
    intro call hc
    conv => lhs; whnf
    refine bind_some2 hm ?_; clear hm; intro y1 hy1 hm
    have hk2 : call false 42 [AV.sl 3 (List.map encOp (v0_l))] [] = some (AV.tup [AV.int .i64 ((y1).1), AV.int .i64 ((y1).2)], []) := (hc _ _ _).trans (ok_ref06_lies n v0_l y1 hy1)
    try simp only [List.drop_zero, ls]
    first | simp only [hk2] | rewrite [hk2]
    try simp only [ls]
    conv => lhs; whnf
    have hq := Option.some.inj hm; clear hm; subst hq
    try simp only [ls]
    exact fq (y := some (AV.int .i64 ((y1).2), []))

set_option maxHeartbeats 4000000 in
theorem ok_ref06_in (n : Nat) : ∀ (v0_n : Int) (v1_most : Int) (r : Bool), m_ref06_in n v0_n v1_most = some r → callN Try.prog HH XT n 43 [AV.int .i64 (v0_n), AV.int .i64 (v1_most)] [] = some (AV.bool (r), []) := by
  cases n with
  | zero => intro v0_n v1_most r hm; exact absurd hm (by intro h; cases h)
  | succ n =>
    intro v0_n v1_most r hm
    rw [m_ref06_in] at hm
    refine callN_eq' Try.func43 (by rfl) rfl rfl (Nat.le_of_ble_eq_true rfl) ?_
    intro call hc
    conv => lhs; whnf
    refine bif_or2 hm ?_ ?_ <;> clear hm <;> intro hc1 hm
    · simp only [hc1, ls]
      conv => lhs; whnf
      have hq := Option.some.inj hm; clear hm; subst hq
      try simp only [ls]
      exact fq (y := some (AV.bool (decide (v0_n < v1_most)), []))
    · simp only [hc1, ls]
      conv => lhs; whnf
      have hq := Option.some.inj hm; clear hm; subst hq
      try simp only [ls]
      exact fq (y := some (AV.bool (false), []))

set_option maxHeartbeats 4000000 in
theorem ok_ref06_Right (n : Nat) : ∀ (v0_l : (List OpS)) (v1_regs : (List Int)) (v2_own : Int) (v3_locs : Int) (r : Bool), m_ref06_Right n v0_l v1_regs v2_own v3_locs = some r → callN Try.prog HH XT n 23 [AV.sl 3 (List.map encOp (v0_l)), AV.sl 1 (List.map encI (v1_regs)), AV.int .i64 (v2_own), AV.int .i64 (v3_locs)] [] = some (AV.bool (r), []) := by
  cases n with
  | zero => intro v0_l v1_regs v2_own v3_locs r hm; exact absurd hm (by intro h; cases h)
  | succ n =>
    intro v0_l v1_regs v2_own v3_locs r hm
    rw [m_ref06_Right] at hm
    refine callN_eq' Try.func23 (by rfl) rfl rfl (Nat.le_of_ble_eq_true rfl) ?_
    intro call hc
    conv => lhs; whnf
    refine bind_some2 hm ?_; clear hm; intro o9 ho9 hm
    refine rounds_sim (σ := Int) (τ := Unit) (ν := Bool) 0 (fun s1 a3 => stOf 71 [(0, AV.sl 3 (List.map encOp (v0_l))), (1, AV.sl 1 (List.map encI (v1_regs))), (2, AV.int .i64 (v2_own)), (3, AV.int .i64 (v3_locs)), (9, AV.int .i64 (s1))]) (fun s1 a3 => []) (fun _ a32 => stOf 71 [(0, AV.sl 3 (List.map encOp (v0_l)))]) (fun _ a32 => []) (fun v => (AV.bool (v), [])) (fun k s => ref06_Right_L0 n v0_l v1_regs v2_own v3_locs k s) (fun s => rfl) o9 ?_ n 0 (fun _ => 0) _ _ ho9 ?_ (by first | rfl | (simp only [ls, List.map_append, List.map_cons, List.map_nil, List.append_nil, List.length_set, length_copyL] <;> rfl)) (by first | rfl | (simp only [ls, List.map_append, List.map_cons, List.map_nil, List.append_nil, List.length_set, length_copyL] <;> rfl))
    · intro k2 ss a3 K4 cont5 hK6 hcont7 hm hr8
      obtain ⟨s1, rfl⟩ : ∃ x, x = ss := ⟨_, rfl⟩
      replace hm : ref06_Right_L0 n v0_l v1_regs v2_own v3_locs (k2 + 1) s1 = some o9 := hm
      rw [ref06_Right_L0] at hm
      conv => lhs; whnf
      refine bif_or2 hm ?_ ?_ <;> clear hm <;> intro hc10 hm
      · simp only [hc10, ls]
        conv => lhs; whnf
        refine bind_some2 hm ?_; clear hm; intro x11 hx11 hm
        refine bif_pos (by first | exact idx_in hx11 | exact idx_in' hx11) ?_
        simp only [idx_nth (f := encOp) hx11, ls]
        conv => lhs; whnf
        refine bif_or2 hm ?_ ?_ <;> clear hm <;> intro hc12 hm
        · simp only [hc12, ls]
          conv => lhs; whnf
          refine bind_some2 hm ?_; clear hm; intro y13 hy13 hm
          have hk14 : call false 43 [AV.int .i64 (x11.n), AV.int .i64 (10000)] [] = some (AV.bool (y13), []) := (hc _ _ _).trans (ok_ref06_in n x11.n 10000 y13 hy13)
          try simp only [List.drop_zero, ls]
          first | simp only [hk14] | rewrite [hk14]
          try simp only [ls]
          conv => lhs; whnf
          refine bif_or2 hm ?_ ?_ <;> clear hm <;> intro hc15 hm
          · simp only [hc15, ls]
            conv => lhs; whnf
            exact cq (hcont7 (IntKind.i64.wrap (s1 + 1)) (fun _ => 0) hm)
          · simp only [hc15, ls]
            conv => lhs; whnf
            have hq := Option.some.inj hm; clear hm; subst hq
            refine (hK6 _ _).trans ?_
            refine Eq.trans ?_ (Eq.symm (show _ = some _ from hr8))
            conv => lhs; whnf
            try simp only [ls]
            exact fq (y := some (AV.bool (false), []))
        · simp only [hc12, ls]
          conv => lhs; whnf
          refine bif_or2 hm ?_ ?_ <;> clear hm <;> intro hc16 hm
          · simp only [hc16, ls]
            conv => lhs; whnf
            refine bind_some2 hm ?_; clear hm; intro y17 hy17 hm
            have hk18 : call false 43 [AV.int .i64 (x11.n), AV.int .i64 (v2_own)] [] = some (AV.bool (y17), []) := (hc _ _ _).trans (ok_ref06_in n x11.n v2_own y17 hy17)
            try simp only [List.drop_zero, ls]
            first | simp only [hk18] | rewrite [hk18]
            try simp only [ls]
            conv => lhs; whnf
            refine bif_or2 hm ?_ ?_ <;> clear hm <;> intro hc19 hm
            · simp only [hc19, ls]
              conv => lhs; whnf
              exact cq (hcont7 (IntKind.i64.wrap (s1 + 1)) (fun _ => 0) hm)
            · simp only [hc19, ls]
              conv => lhs; whnf
              have hq := Option.some.inj hm; clear hm; subst hq
              refine (hK6 _ _).trans ?_
              refine Eq.trans ?_ (Eq.symm (show _ = some _ from hr8))
              conv => lhs; whnf
              try simp only [ls]
              exact fq (y := some (AV.bool (false), []))
          · simp only [hc16, ls]
            conv => lhs; whnf
            refine bif_or2 hm ?_ ?_ <;> clear hm <;> intro hc20 hm
            · simp only [hc20, ls]
              conv => lhs; whnf
              refine bind_some2 hm ?_; clear hm; intro y21 hy21 hm
              have hk22 : call false 43 [AV.int .i64 (x11.n), AV.int .i64 (v3_locs)] [] = some (AV.bool (y21), []) := (hc _ _ _).trans (ok_ref06_in n x11.n v3_locs y21 hy21)
              try simp only [List.drop_zero, ls]
              first | simp only [hk22] | rewrite [hk22]
              try simp only [ls]
              conv => lhs; whnf
              refine bif_or2 hm ?_ ?_ <;> clear hm <;> intro hc23 hm
              · simp only [hc23, ls]
                conv => lhs; whnf
                exact cq (hcont7 (IntKind.i64.wrap (s1 + 1)) (fun _ => 0) hm)
              · simp only [hc23, ls]
                conv => lhs; whnf
                have hq := Option.some.inj hm; clear hm; subst hq
                refine (hK6 _ _).trans ?_
                refine Eq.trans ?_ (Eq.symm (show _ = some _ from hr8))
                conv => lhs; whnf
                try simp only [ls]
                exact fq (y := some (AV.bool (false), []))
            · simp only [hc20, ls]
              conv => lhs; whnf
              refine bif_or2 hm ?_ ?_ <;> clear hm <;> intro hc24 hm
              · simp only [hc24, ls]
                conv => lhs; whnf
                refine bind_some2 hm ?_; clear hm; intro y25 hy25 hm
                have hk26 : call false 43 [AV.int .i64 (x11.t), AV.int .i64 ((((v1_regs).length : Nat) : Int))] [] = some (AV.bool (y25), []) := (hc _ _ _).trans (ok_ref06_in n x11.t (((v1_regs).length : Nat) : Int) y25 hy25)
                try simp only [List.drop_zero, ls]
                first | simp only [hk26] | rewrite [hk26]
                try simp only [ls]
                conv => lhs; whnf
                refine bif_or2 hm ?_ ?_ <;> clear hm <;> intro hc27 hm
                · simp only [hc27, ls]
                  conv => lhs; whnf
                  refine bind_some2 hm ?_; clear hm; intro x28 hx28 hm
                  refine bif_pos (by first | exact idx_in hx28 | exact idx_in' hx28) ?_
                  simp only [idx_nth (f := encI) hx28, ls]
                  conv => lhs; whnf
                  refine bind_some2 hm ?_; clear hm; intro y29 hy29 hm
                  have hk30 : call false 43 [AV.int .i64 (x11.n), AV.int .i64 (x28)] [] = some (AV.bool (y29), []) := (hc _ _ _).trans (ok_ref06_in n x11.n x28 y29 hy29)
                  try simp only [List.drop_zero, ls]
                  first | simp only [hk30] | rewrite [hk30]
                  try simp only [ls]
                  conv => lhs; whnf
                  refine bif_or2 hm ?_ ?_ <;> clear hm <;> intro hc31 hm
                  · simp only [hc31, ls]
                    conv => lhs; whnf
                    exact cq (hcont7 (IntKind.i64.wrap (s1 + 1)) (fun _ => 0) hm)
                  · simp only [hc31, ls]
                    conv => lhs; whnf
                    have hq := Option.some.inj hm; clear hm; subst hq
                    refine (hK6 _ _).trans ?_
                    refine Eq.trans ?_ (Eq.symm (show _ = some _ from hr8))
                    conv => lhs; whnf
                    try simp only [ls]
                    exact fq (y := some (AV.bool (false), []))
                · simp only [hc27, ls]
                  conv => lhs; whnf
                  have hq := Option.some.inj hm; clear hm; subst hq
                  refine (hK6 _ _).trans ?_
                  refine Eq.trans ?_ (Eq.symm (show _ = some _ from hr8))
                  conv => lhs; whnf
                  try simp only [ls]
                  exact fq (y := some (AV.bool (false), []))
              · simp only [hc24, ls]
                conv => lhs; whnf
                exact cq (hcont7 (IntKind.i64.wrap (s1 + 1)) (fun _ => 0) hm)
      · simp only [hc10, ls]
        conv => lhs; whnf
        have hq := Option.some.inj hm; clear hm; subst hq
        exact kq (hr8 (fun _ => 0))
    · cases o9 with
      | ret v =>
        have hq := Option.some.inj hm; clear hm; subst hq
        rfl
      | out t =>
        intro a32
        dsimp only at hm
        conv => lhs; whnf
        refine bind_some2 hm ?_; clear hm; intro y33 hy33 hm
        have hk34 : call false 42 [AV.sl 3 (List.map encOp (v0_l))] [] = some (AV.tup [AV.int .i64 ((y33).1), AV.int .i64 ((y33).2)], []) := (hc _ _ _).trans (ok_ref06_lies n v0_l y33 hy33)
        try simp only [List.drop_zero, ls]
        first | simp only [hk34] | rewrite [hk34]
        try simp only [ls]
        conv => lhs; whnf
        have hq := Option.some.inj hm; clear hm; subst hq
        try simp only [ls]
        exact fq (y := some (AV.bool ((((y33).1) == 1)), []))

set_option maxHeartbeats 4000000 in
theorem ok_ref06_All (n : Nat) : ∀ (v0_l : (List Int)) (v1_mod : Int) (r : Bool), m_ref06_All n v0_l v1_mod = some r → callN Try.prog HH XT n 38 [AV.sl 1 (List.map encI (v0_l)), AV.int .i64 (v1_mod)] [] = some (AV.bool (r), []) := by
  cases n with
  | zero => intro v0_l v1_mod r hm; exact absurd hm (by intro h; cases h)
  | succ n =>
    intro v0_l v1_mod r hm
    rw [m_ref06_All] at hm
    refine callN_eq' Try.func38 (by rfl) rfl rfl (Nat.le_of_ble_eq_true rfl) ?_
    intro call hc
    conv => lhs; whnf
    refine bind_some2 hm ?_; clear hm; intro o9 ho9 hm
    refine rounds_sim (σ := Int) (τ := Unit) (ν := Bool) 0 (fun s1 a3 => stOf 19 [(0, AV.sl 1 (List.map encI (v0_l))), (1, AV.int .i64 (v1_mod)), (5, AV.int .i64 (s1))]) (fun s1 a3 => []) (fun _ a15 => stOf 19 []) (fun _ a15 => []) (fun v => (AV.bool (v), [])) (fun k s => ref06_All_L0 n v0_l v1_mod k s) (fun s => rfl) o9 ?_ n 0 (fun _ => 0) _ _ ho9 ?_ (by first | rfl | (simp only [ls, List.map_append, List.map_cons, List.map_nil, List.append_nil, List.length_set, length_copyL] <;> rfl)) (by first | rfl | (simp only [ls, List.map_append, List.map_cons, List.map_nil, List.append_nil, List.length_set, length_copyL] <;> rfl))
    · intro k2 ss a3 K4 cont5 hK6 hcont7 hm hr8
      obtain ⟨s1, rfl⟩ : ∃ x, x = ss := ⟨_, rfl⟩
      replace hm : ref06_All_L0 n v0_l v1_mod (k2 + 1) s1 = some o9 := hm
      rw [ref06_All_L0] at hm
      conv => lhs; whnf
      refine bif_or2 hm ?_ ?_ <;> clear hm <;> intro hc10 hm
      · simp only [hc10, ls]
        conv => lhs; whnf
        refine bind_some2 hm ?_; clear hm; intro x11 hx11 hm
        refine bif_pos (by first | exact idx_in hx11 | exact idx_in' hx11) ?_
        simp only [idx_nth (f := encI) hx11, ls]
        conv => lhs; whnf
        refine bind_some2 hm ?_; clear hm; intro y12 hy12 hm
        have hk13 : call false 43 [AV.int .i64 (x11), AV.int .i64 (v1_mod)] [] = some (AV.bool (y12), []) := (hc _ _ _).trans (ok_ref06_in n x11 v1_mod y12 hy12)
        try simp only [List.drop_zero, ls]
        first | simp only [hk13] | rewrite [hk13]
        try simp only [ls]
        conv => lhs; whnf
        refine bif_or2 hm ?_ ?_ <;> clear hm <;> intro hc14 hm
        · simp only [hc14, ls]
          conv => lhs; whnf
          exact cq (hcont7 (IntKind.i64.wrap (s1 + 1)) (fun _ => 0) hm)
        · simp only [hc14, ls]
          conv => lhs; whnf
          have hq := Option.some.inj hm; clear hm; subst hq
          refine (hK6 _ _).trans ?_
          refine Eq.trans ?_ (Eq.symm (show _ = some _ from hr8))
          conv => lhs; whnf
          try simp only [ls]
          exact fq (y := some (AV.bool (false), []))
      · simp only [hc10, ls]
        conv => lhs; whnf
        have hq := Option.some.inj hm; clear hm; subst hq
        exact kq (hr8 (fun _ => 0))
    · cases o9 with
      | ret v =>
        have hq := Option.some.inj hm; clear hm; subst hq
        rfl
      | out t =>
        intro a15
        dsimp only at hm
        conv => lhs; whnf
        have hq := Option.some.inj hm; clear hm; subst hq
        try simp only [ls]
        exact fq (y := some (AV.bool (true), []))

set_option maxHeartbeats 4000000 in
theorem ok_ref06_truth (n : Nat) : ∀ (v0_is : Bool) (r : Int), m_ref06_truth n v0_is = some r → callN Try.prog HH XT n 39 [AV.bool (v0_is)] [] = some (AV.int .i64 (r), []) := by
  cases n with
  | zero => intro v0_is r hm; exact absurd hm (by intro h; cases h)
  | succ n =>
    intro v0_is r hm
    rw [m_ref06_truth] at hm
    refine callN_eq' Try.func39 (by rfl) rfl rfl (Nat.le_of_ble_eq_true rfl) ?_
    intro call hc
    conv => lhs; whnf
    refine bif_or2 hm ?_ ?_ <;> clear hm <;> intro hc1 hm
    · simp only [hc1, ls]
      conv => lhs; whnf
      have hq := Option.some.inj hm; clear hm; subst hq
      try simp only [ls]
      exact fq (y := some (AV.int .i64 (1), []))
    · simp only [hc1, ls]
      conv => lhs; whnf
      have hq := Option.some.inj hm; clear hm; subst hq
      try simp only [ls]
      exact fq (y := some (AV.int .i64 (0), []))

set_option maxHeartbeats 4000000 in
theorem ok_ref06_two (n : Nat) : ∀ (v0_op : Int) (v1_a : Int) (v2_b : Int) (v3_mod : Int) (r : Int), m_ref06_two n v0_op v1_a v2_b v3_mod = some r → callN Try.prog HH XT n 40 [AV.int .i64 (v0_op), AV.int .i64 (v1_a), AV.int .i64 (v2_b), AV.int .i64 (v3_mod)] [] = some (AV.int .i64 (r), []) := by
  cases n with
  | zero => intro v0_op v1_a v2_b v3_mod r hm; exact absurd hm (by intro h; cases h)
  | succ n =>
    intro v0_op v1_a v2_b v3_mod r hm
    rw [m_ref06_two] at hm
    refine callN_eq' Try.func40 (by rfl) rfl rfl (Nat.le_of_ble_eq_true rfl) ?_
    intro call hc
    conv => lhs; whnf
    refine bif_or2 hm ?_ ?_ <;> clear hm <;> intro hc1 hm
    · simp only [hc1, ls]
      conv => lhs; whnf
      refine bif_or2 hm ?_ ?_ <;> clear hm <;> intro hc2 hm
      · cases hm
      · simp only [hc2, ls]
        conv => lhs; whnf
        have hq := Option.some.inj hm; clear hm; subst hq
        try simp only [ls]
        exact fq (y := some (AV.int .i64 ((Int.tmod (IntKind.i64.wrap (v1_a + v2_b)) v3_mod)), []))
    · simp only [hc1, ls]
      conv => lhs; whnf
      refine bif_or2 hm ?_ ?_ <;> clear hm <;> intro hc3 hm
      · simp only [hc3, ls]
        conv => lhs; whnf
        refine bif_or2 hm ?_ ?_ <;> clear hm <;> intro hc4 hm
        · cases hm
        · simp only [hc4, ls]
          conv => lhs; whnf
          have hq := Option.some.inj hm; clear hm; subst hq
          try simp only [ls]
          exact fq (y := some (AV.int .i64 ((Int.tmod (IntKind.i64.wrap ((IntKind.i64.wrap (v1_a - v2_b)) + v3_mod)) v3_mod)), []))
      · simp only [hc3, ls]
        conv => lhs; whnf
        refine bif_or2 hm ?_ ?_ <;> clear hm <;> intro hc5 hm
        · simp only [hc5, ls]
          conv => lhs; whnf
          refine bif_or2 hm ?_ ?_ <;> clear hm <;> intro hc6 hm
          · cases hm
          · simp only [hc6, ls]
            conv => lhs; whnf
            have hq := Option.some.inj hm; clear hm; subst hq
            try simp only [ls]
            exact fq (y := some (AV.int .i64 ((Int.tmod (IntKind.i64.wrap (v1_a * v2_b)) v3_mod)), []))
        · simp only [hc5, ls]
          conv => lhs; whnf
          refine bif_or2 hm ?_ ?_ <;> clear hm <;> intro hc7 hm
          · simp only [hc7, ls]
            conv => lhs; whnf
            refine bind_some2 hm ?_; clear hm; intro y8 hy8 hm
            have hk9 : call false 39 [AV.bool ((v1_a == v2_b))] [] = some (AV.int .i64 (y8), []) := (hc _ _ _).trans (ok_ref06_truth n (v1_a == v2_b) y8 hy8)
            try simp only [List.drop_zero, ls]
            first | simp only [hk9] | rewrite [hk9]
            try simp only [ls]
            conv => lhs; whnf
            have hq := Option.some.inj hm; clear hm; subst hq
            try simp only [ls]
            exact fq (y := some (AV.int .i64 (y8), []))
          · simp only [hc7, ls]
            conv => lhs; whnf
            refine bif_or2 hm ?_ ?_ <;> clear hm <;> intro hc10 hm
            · simp only [hc10, ls]
              conv => lhs; whnf
              refine bind_some2 hm ?_; clear hm; intro y11 hy11 hm
              have hk12 : call false 39 [AV.bool ((v1_a != v2_b))] [] = some (AV.int .i64 (y11), []) := (hc _ _ _).trans (ok_ref06_truth n (v1_a != v2_b) y11 hy11)
              try simp only [List.drop_zero, ls]
              first | simp only [hk12] | rewrite [hk12]
              try simp only [ls]
              conv => lhs; whnf
              have hq := Option.some.inj hm; clear hm; subst hq
              try simp only [ls]
              exact fq (y := some (AV.int .i64 (y11), []))
            · simp only [hc10, ls]
              conv => lhs; whnf
              refine bif_or2 hm ?_ ?_ <;> clear hm <;> intro hc13 hm
              · simp only [hc13, ls]
                conv => lhs; whnf
                refine bind_some2 hm ?_; clear hm; intro y14 hy14 hm
                have hk15 : call false 39 [AV.bool (decide (v1_a < v2_b))] [] = some (AV.int .i64 (y14), []) := (hc _ _ _).trans (ok_ref06_truth n (decide (v1_a < v2_b)) y14 hy14)
                try simp only [List.drop_zero, ls]
                first | simp only [hk15] | rewrite [hk15]
                try simp only [ls]
                conv => lhs; whnf
                have hq := Option.some.inj hm; clear hm; subst hq
                try simp only [ls]
                exact fq (y := some (AV.int .i64 (y14), []))
              · simp only [hc13, ls]
                conv => lhs; whnf
                refine bif_or2 hm ?_ ?_ <;> clear hm <;> intro hc16 hm
                · simp only [hc16, ls]
                  conv => lhs; whnf
                  refine bind_some2 hm ?_; clear hm; intro y17 hy17 hm
                  have hk18 : call false 39 [AV.bool (decide (v1_a ≤ v2_b))] [] = some (AV.int .i64 (y17), []) := (hc _ _ _).trans (ok_ref06_truth n (decide (v1_a ≤ v2_b)) y17 hy17)
                  try simp only [List.drop_zero, ls]
                  first | simp only [hk18] | rewrite [hk18]
                  try simp only [ls]
                  conv => lhs; whnf
                  have hq := Option.some.inj hm; clear hm; subst hq
                  try simp only [ls]
                  exact fq (y := some (AV.int .i64 (y17), []))
                · simp only [hc16, ls]
                  conv => lhs; whnf
                  refine bif_or2 hm ?_ ?_ <;> clear hm <;> intro hc19 hm
                  · simp only [hc19, ls]
                    conv => lhs; whnf
                    refine bif_or2 hm ?_ ?_ <;> clear hm <;> intro hc20 hm
                    · simp only [hc20, ls]
                      conv => lhs; whnf
                      refine bind_some2 hm ?_; clear hm; intro y21 hy21 hm
                      have hk22 : call false 39 [AV.bool ((v2_b != 0))] [] = some (AV.int .i64 (y21), []) := (hc _ _ _).trans (ok_ref06_truth n (v2_b != 0) y21 hy21)
                      try simp only [List.drop_zero, ls]
                      first | simp only [hk22] | rewrite [hk22]
                      try simp only [ls]
                      conv => lhs; whnf
                      have hq := Option.some.inj hm; clear hm; subst hq
                      try simp only [ls]
                      exact fq (y := some (AV.int .i64 (y21), []))
                    · simp only [hc20, ls]
                      conv => lhs; whnf
                      refine bind_some2 hm ?_; clear hm; intro y23 hy23 hm
                      have hk24 : call false 39 [AV.bool (false)] [] = some (AV.int .i64 (y23), []) := (hc _ _ _).trans (ok_ref06_truth n false y23 hy23)
                      try simp only [List.drop_zero, ls]
                      first | simp only [hk24] | rewrite [hk24]
                      try simp only [ls]
                      conv => lhs; whnf
                      have hq := Option.some.inj hm; clear hm; subst hq
                      try simp only [ls]
                      exact fq (y := some (AV.int .i64 (y23), []))
                  · simp only [hc19, ls]
                    conv => lhs; whnf
                    refine bif_or2 hm ?_ ?_ <;> clear hm <;> intro hc25 hm
                    · simp only [hc25, ls]
                      conv => lhs; whnf
                      refine bind_some2 hm ?_; clear hm; intro y26 hy26 hm
                      have hk27 : call false 39 [AV.bool (true)] [] = some (AV.int .i64 (y26), []) := (hc _ _ _).trans (ok_ref06_truth n true y26 hy26)
                      try simp only [List.drop_zero, ls]
                      first | simp only [hk27] | rewrite [hk27]
                      try simp only [ls]
                      conv => lhs; whnf
                      have hq := Option.some.inj hm; clear hm; subst hq
                      try simp only [ls]
                      exact fq (y := some (AV.int .i64 (y26), []))
                    · simp only [hc25, ls]
                      conv => lhs; whnf
                      refine bind_some2 hm ?_; clear hm; intro y28 hy28 hm
                      have hk29 : call false 39 [AV.bool ((v2_b != 0))] [] = some (AV.int .i64 (y28), []) := (hc _ _ _).trans (ok_ref06_truth n (v2_b != 0) y28 hy28)
                      try simp only [List.drop_zero, ls]
                      first | simp only [hk29] | rewrite [hk29]
                      try simp only [ls]
                      conv => lhs; whnf
                      have hq := Option.some.inj hm; clear hm; subst hq
                      try simp only [ls]
                      exact fq (y := some (AV.int .i64 (y28), []))
end Go.Proofs.Ytmnnkeejgkhgpaa
end

section
namespace Go.Proofs.Ytmnnkeejgkhgpaa
set_option linter.unusedVariables false
set_option linter.unusedSimpArgs false
set_option maxRecDepth 100000

set_option maxHeartbeats 4000000 in
theorem ok_ref06_Value (n : Nat) : ∀ (v0_l : (List OpS)) (v1_mod : Int) (v2_own : (List Int)) (v3_all : (List (List Int))) (v4_mem : (List Int)) (r : (Int × Bool)), m_ref06_Value n v0_l v1_mod v2_own v3_all v4_mem = some r → callN Try.prog HH XT n 18 [AV.sl 3 (List.map encOp (v0_l)), AV.int .i64 (v1_mod), AV.sl 1 (List.map encI (v2_own)), AV.sl 1 (List.map encRow (v3_all)), AV.sl 1 (List.map encI (v4_mem))] [] = some (AV.tup [AV.int .i64 ((r).1), AV.bool ((r).2)], []) := by
  cases n with
  | zero => intro v0_l v1_mod v2_own v3_all v4_mem r hm; exact absurd hm (by intro h; cases h)
  | succ n =>
    intro v0_l v1_mod v2_own v3_all v4_mem r hm
    rw [m_ref06_Value] at hm
    refine callN_eq' Try.func18 (by rfl) rfl rfl (Nat.le_of_ble_eq_true rfl) ?_
    intro call hc
    conv => lhs; whnf
    refine bif_or2 hm ?_ ?_ <;> clear hm <;> intro hc1 hm
    · simp only [hc1, ls]
      conv => lhs; whnf
      have hq := Option.some.inj hm; clear hm; subst hq
      try simp only [ls]
      exact fq (y := some (AV.tup [AV.int .i64 (0), AV.bool (false)], []))
    · simp only [hc1, ls]
      conv => lhs; whnf
      refine bif_or2 hm ?_ ?_ <;> clear hm <;> intro hc2 hm
      · simp only [hc2, ls]
        conv => lhs; whnf
        have hq := Option.some.inj hm; clear hm; subst hq
        try simp only [ls]
        exact fq (y := some (AV.tup [AV.int .i64 (0), AV.bool (false)], []))
      · simp only [hc2, ls]
        conv => lhs; whnf
        refine bind_some2 hm ?_; clear hm; intro y3 hy3 hm
        have hk4 : call false 38 [AV.sl 1 (List.map encI (v2_own)), AV.int .i64 (v1_mod)] [] = some (AV.bool (y3), []) := (hc _ _ _).trans (ok_ref06_All n v2_own v1_mod y3 hy3)
        try simp only [List.drop_zero, ls]
        first | simp only [hk4] | rewrite [hk4]
        try simp only [ls]
        conv => lhs; whnf
        refine bif_or2 hm ?_ ?_ <;> clear hm <;> intro hc5 hm
        · simp only [hc5, ls]
          conv => lhs; whnf
          refine bind_some2 hm ?_; clear hm; intro y6 hy6 hm
          have hk7 : call false 38 [AV.sl 1 (List.map encI (v4_mem)), AV.int .i64 (v1_mod)] [] = some (AV.bool (y6), []) := (hc _ _ _).trans (ok_ref06_All n v4_mem v1_mod y6 hy6)
          try simp only [List.drop_zero, ls]
          first | simp only [hk7] | rewrite [hk7]
          try simp only [ls]
          conv => lhs; whnf
          refine bif_or2 hm ?_ ?_ <;> clear hm <;> intro hc8 hm
          · simp only [hc8, ls]
            conv => lhs; whnf
            refine bind_some2 hm ?_; clear hm; intro o18 ho18 hm
            refine rounds_sim (σ := (Int × (List Int))) (τ := (List Int)) (ν := (Int × Bool)) 0 (fun (s9, s10) a12 => stOf 162 [(0, AV.sl 3 (List.map encOp (v0_l))), (1, AV.int .i64 (v1_mod)), (2, AV.sl 1 (List.map encI (v2_own))), (3, AV.sl 1 (List.map encRow (v3_all))), (4, AV.sl 1 (List.map encI (v4_mem))), (12, AV.row 0 (List.length (s10))), (13, AV.int .i64 (s9))]) (fun (s9, s10) a12 => [Ob.row 3 1 (List.map encI (s10))]) (fun x29 a28 => stOf 162 [(0, AV.sl 3 (List.map encOp (v0_l))), (1, AV.int .i64 (v1_mod)), (2, AV.sl 1 (List.map encI (v2_own))), (3, AV.sl 1 (List.map encRow (v3_all))), (4, AV.sl 1 (List.map encI (v4_mem))), (12, AV.row 0 (List.length (x29)))]) (fun x29 a28 => [Ob.row 3 1 (List.map encI (x29))]) (fun v => (AV.tup [AV.int .i64 ((v).1), AV.bool ((v).2)], [])) (fun k s => ref06_Value_L0 n v1_mod v3_all k ((s).1) ((s).2)) (fun s => rfl) o18 ?_ n (0, ([] : List Int)) (fun _ => 0) _ _ ho18 ?_ (by first | rfl | (simp only [ls, List.map_append, List.map_cons, List.map_nil, List.append_nil, List.length_set, length_copyL] <;> rfl)) (by first | rfl | (simp only [ls, List.map_append, List.map_cons, List.map_nil, List.append_nil, List.length_set, length_copyL] <;> rfl))
            · intro k11 ss a12 K13 cont14 hK15 hcont16 hm hr17
              obtain ⟨s9, s10⟩ := ss
              replace hm : ref06_Value_L0 n v1_mod v3_all (k11 + 1) s9 s10 = some o18 := hm
              rw [ref06_Value_L0] at hm
              conv => lhs; whnf
              refine bif_or2 hm ?_ ?_ <;> clear hm <;> intro hc19 hm
              · simp only [hc19, ls]
                conv => lhs; whnf
                refine bind_some2 hm ?_; clear hm; intro x20 hx20 hm
                refine bif_pos (by first | exact idx_in hx20 | exact idx_in' hx20) ?_
                simp only [idx_nth (f := encRow) hx20, ls]
                conv => lhs; whnf
                refine bind_some2 hm ?_; clear hm; intro y21 hy21 hm
                have hk22 : call false 38 [AV.sl 1 (List.map encI (x20)), AV.int .i64 (v1_mod)] [] = some (AV.bool (y21), []) := (hc _ _ _).trans (ok_ref06_All n x20 v1_mod y21 hy21)
                try simp only [List.drop_zero, ls]
                first | simp only [hk22] | rewrite [hk22]
                try simp only [ls]
                conv => lhs; whnf
                refine bif_or2 hm ?_ ?_ <;> clear hm <;> intro hc23 hm
                · simp only [hc23, ls]
                  conv => lhs; whnf
                  refine bind_some2 hm ?_; clear hm; intro x24 hx24 hm
                  refine bif_pos (by first | exact idx_in hx24 | exact idx_in' hx24) ?_
                  simp only [idx_nth (f := encRow) hx24, ls]
                  conv => lhs; whnf
                  refine chk_some2 hm ?_; clear hm; intro hc27 hm
                  refine bif_pos (app_row hc27 (by first | rfl | simp only [List.length_map]) (by first | rfl | simp only [List.length_map]) (by first | rfl | simp only [List.length_map, take_map_len]) (by kernel_rfl)) ?_
                  try simp only [lt]
                  have hp25 : (List.map encI (s10) : List (List AV)) ++ [[AV.int .i64 ((((x24).length : Nat) : Int))]] = List.map encI (s10 ++ ([(((x24).length : Nat) : Int)] : List Int)) := by first | rfl | (rw [List.map_append]; rfl) | (rw [List.map_append]; done) | (simp only [List.map_append, List.map_cons, List.map_nil, List.nil_append, encI] <;> rfl)
                  have hl26 : List.length (List.map encI (s10) : List (List AV)) + List.length ([[AV.int .i64 ((((x24).length : Nat) : Int))]] : List (List AV)) = List.length (s10 ++ ([(((x24).length : Nat) : Int)] : List Int)) := by simp only [List.length_map, List.length_append] <;> rfl
                  have hl26_b : List.length s10 + List.length ([[AV.int .i64 ((((x24).length : Nat) : Int))]] : List (List AV)) = List.length (s10 ++ ([(((x24).length : Nat) : Int)] : List Int)) := by simp only [List.length_map, List.length_append] <;> rfl
                  have hl26_c : List.length s10 + List.length ([(((x24).length : Nat) : Int)] : List Int) = List.length (s10 ++ ([(((x24).length : Nat) : Int)] : List Int)) := by simp only [List.length_map, List.length_append] <;> rfl
                  first | simp only [hp25, hl26] | (simp only [List.length_map, take_map_len]; simp only [hp25, hl26_b, hl26_c])
                  try simp only [ls]
                  conv => lhs; whnf
                  exact cq (hcont16 (IntKind.i64.wrap (s9 + 1), (s10 ++ ([(((x24).length : Nat) : Int)] : List Int))) (fun _ => 0) hm)
                · simp only [hc23, ls]
                  conv => lhs; whnf
                  have hq := Option.some.inj hm; clear hm; subst hq
                  refine (hK15 _ _).trans ?_
                  refine Eq.trans ?_ (Eq.symm (show _ = some _ from hr17))
                  conv => lhs; whnf
                  try simp only [ls]
                  exact fq (y := some (AV.tup [AV.int .i64 (0), AV.bool (false)], []))
              · simp only [hc19, ls]
                conv => lhs; whnf
                have hq := Option.some.inj hm; clear hm; subst hq
                exact kq (hr17 (fun _ => 0))
            · cases o18 with
              | ret v =>
                have hq := Option.some.inj hm; clear hm; subst hq
                rfl
              | out t =>
                obtain ⟨x29, rfl⟩ : ∃ x, x = t := ⟨_, rfl⟩
                intro a28
                dsimp only at hm
                conv => lhs; whnf
                refine bind_some2 hm ?_; clear hm; intro y30 hy30 hm
                have hk31 : call false 23 [AV.sl 3 (List.map encOp (v0_l)), AV.sl 1 (List.map encI (x29)), AV.int .i64 ((((v2_own).length : Nat) : Int)), AV.int .i64 ((((v4_mem).length : Nat) : Int))] [] = some (AV.bool (y30), []) := (hc _ _ _).trans (ok_ref06_Right n v0_l x29 (((v2_own).length : Nat) : Int) (((v4_mem).length : Nat) : Int) y30 hy30)
                try simp only [List.drop_zero, ls]
                first | simp only [hk31] | rewrite [hk31]
                try simp only [ls]
                conv => lhs; whnf
                refine bif_or2 hm ?_ ?_ <;> clear hm <;> intro hc32 hm
                · simp only [hc32, ls]
                  conv => lhs; whnf
                  refine bind_some2 hm ?_; clear hm; intro o42 ho42 hm
                  refine rounds_sim (σ := (Int × (List Int))) (τ := (List Int)) (ν := (Int × Bool)) 2 (fun (s33, s34) a36 => stOf 162 [(0, AV.sl 3 (List.map encOp (v0_l))), (1, AV.int .i64 (v1_mod)), (2, AV.sl 1 (List.map encI (v2_own))), (3, AV.sl 1 (List.map encRow (v3_all))), (4, AV.sl 1 (List.map encI (v4_mem))), (14, AV.stk 1 (a36 1) (List.length (s34))), (15, AV.int .i64 (s33))]) (fun (s33, s34) a36 => [Ob.row 3 1 (List.map encI (x29)), Ob.stk (a36 1) 3 1 (List.map encI (s34))]) (fun x81 a80 => stOf 162 [(14, AV.stk 1 (a80 1) (List.length (x81)))]) (fun x81 a80 => [Ob.row 3 1 (List.map encI (x29)), Ob.stk (a80 1) 3 1 (List.map encI (x81))]) (fun v => (AV.tup [AV.int .i64 ((v).1), AV.bool ((v).2)], [])) (fun k s => ref06_Value_L1 n v0_l v1_mod v2_own v3_all v4_mem k ((s).1) ((s).2)) (fun s => rfl) o42 ?_ n (0, ([] : List Int)) (fun j => (bif Nat.beq j 1 then 0 else 0)) _ _ ho42 ?_ (by first | rfl | (simp only [ls, List.map_append, List.map_cons, List.map_nil, List.append_nil, List.length_set, length_copyL] <;> rfl)) (by first | rfl | (simp only [ls, List.map_append, List.map_cons, List.map_nil, List.append_nil, List.length_set, length_copyL] <;> rfl))
                  · intro k35 ss a36 K37 cont38 hK39 hcont40 hm hr41
                    obtain ⟨s33, s34⟩ := ss
                    replace hm : ref06_Value_L1 n v0_l v1_mod v2_own v3_all v4_mem (k35 + 1) s33 s34 = some o42 := hm
                    rw [ref06_Value_L1] at hm
                    conv => lhs; whnf
                    refine bif_or2 hm ?_ ?_ <;> clear hm <;> intro hc43 hm
                    · simp only [hc43, ls]
                      conv => lhs; whnf
                      refine bind_some2 hm ?_; clear hm; intro x44 hx44 hm
                      refine bif_pos (by first | exact idx_in hx44 | exact idx_in' hx44) ?_
                      simp only [idx_nth (f := encOp) hx44, ls]
                      conv => lhs; whnf
                      refine bif_or2 hm ?_ ?_ <;> clear hm <;> intro hc45 hm
                      · simp only [hc45, ls]
                        conv => lhs; whnf
                        refine bif_or2 hm ?_ ?_ <;> clear hm <;> intro hc46 hm
                        · cases hm
                        · simp only [hc46, ls]
                          conv => lhs; whnf
                          refine chk_some2 hm ?_; clear hm; intro hc49 hm
                          try simp only [dec_self]
                          conv => lhs; whnf
                          refine bif_pos (app_row hc49 (by first | rfl | simp only [List.length_map]) (by first | rfl | simp only [List.length_map]) (by first | rfl | simp only [List.length_map, take_map_len]) (by kernel_rfl)) ?_
                          try simp only [lt]
                          have hp47 : (List.map encI (s34) : List (List AV)) ++ [[AV.int .i64 ((Int.tmod x44.n v1_mod))]] = List.map encI (s34 ++ ([(Int.tmod x44.n v1_mod)] : List Int)) := by first | rfl | (rw [List.map_append]; rfl) | (rw [List.map_append]; done) | (simp only [List.map_append, List.map_cons, List.map_nil, List.nil_append, encI] <;> rfl)
                          have hl48 : List.length (List.map encI (s34) : List (List AV)) + List.length ([[AV.int .i64 ((Int.tmod x44.n v1_mod))]] : List (List AV)) = List.length (s34 ++ ([(Int.tmod x44.n v1_mod)] : List Int)) := by simp only [List.length_map, List.length_append] <;> rfl
                          have hl48_b : List.length s34 + List.length ([[AV.int .i64 ((Int.tmod x44.n v1_mod))]] : List (List AV)) = List.length (s34 ++ ([(Int.tmod x44.n v1_mod)] : List Int)) := by simp only [List.length_map, List.length_append] <;> rfl
                          have hl48_c : List.length s34 + List.length ([(Int.tmod x44.n v1_mod)] : List Int) = List.length (s34 ++ ([(Int.tmod x44.n v1_mod)] : List Int)) := by simp only [List.length_map, List.length_append] <;> rfl
                          first | simp only [hp47, hl48] | (simp only [List.length_map, take_map_len]; simp only [hp47, hl48_b, hl48_c])
                          try simp only [ls]
                          conv => lhs; whnf
                          exact cq (hcont40 (IntKind.i64.wrap (s33 + 1), (s34 ++ ([(Int.tmod x44.n v1_mod)] : List Int))) (fun j => (bif Nat.beq j 1 then ((a36 1) + 1) else 0)) hm)
                      · simp only [hc45, ls]
                        conv => lhs; whnf
                        refine bif_or2 hm ?_ ?_ <;> clear hm <;> intro hc50 hm
                        · simp only [hc50, ls]
                          conv => lhs; whnf
                          refine bind_some2 hm ?_; clear hm; intro x51 hx51 hm
                          refine bif_pos (by first | exact idx_in hx51 | exact idx_in' hx51) ?_
                          simp only [idx_nth (f := encI) hx51, ls]
                          conv => lhs; whnf
                          refine chk_some2 hm ?_; clear hm; intro hc54 hm
                          try simp only [dec_self]
                          conv => lhs; whnf
                          refine bif_pos (app_row hc54 (by first | rfl | simp only [List.length_map]) (by first | rfl | simp only [List.length_map]) (by first | rfl | simp only [List.length_map, take_map_len]) (by kernel_rfl)) ?_
                          try simp only [lt]
                          have hp52 : (List.map encI (s34) : List (List AV)) ++ [[AV.int .i64 (x51)]] = List.map encI (s34 ++ ([x51] : List Int)) := by first | rfl | (rw [List.map_append]; rfl) | (rw [List.map_append]; done) | (simp only [List.map_append, List.map_cons, List.map_nil, List.nil_append, encI] <;> rfl)
                          have hl53 : List.length (List.map encI (s34) : List (List AV)) + List.length ([[AV.int .i64 (x51)]] : List (List AV)) = List.length (s34 ++ ([x51] : List Int)) := by simp only [List.length_map, List.length_append] <;> rfl
                          have hl53_b : List.length s34 + List.length ([[AV.int .i64 (x51)]] : List (List AV)) = List.length (s34 ++ ([x51] : List Int)) := by simp only [List.length_map, List.length_append] <;> rfl
                          have hl53_c : List.length s34 + List.length ([x51] : List Int) = List.length (s34 ++ ([x51] : List Int)) := by simp only [List.length_map, List.length_append] <;> rfl
                          first | simp only [hp52, hl53] | (simp only [List.length_map, take_map_len]; simp only [hp52, hl53_b, hl53_c])
                          try simp only [ls]
                          conv => lhs; whnf
                          exact cq (hcont40 (IntKind.i64.wrap (s33 + 1), (s34 ++ ([x51] : List Int))) (fun j => (bif Nat.beq j 1 then ((a36 1) + 1) else 0)) hm)
                        · simp only [hc50, ls]
                          conv => lhs; whnf
                          refine bif_or2 hm ?_ ?_ <;> clear hm <;> intro hc55 hm
                          · simp only [hc55, ls]
                            conv => lhs; whnf
                            refine bind_some2 hm ?_; clear hm; intro x56 hx56 hm
                            refine bif_pos (by first | exact idx_in hx56 | exact idx_in' hx56) ?_
                            simp only [idx_nth (f := encI) hx56, ls]
                            conv => lhs; whnf
                            refine chk_some2 hm ?_; clear hm; intro hc59 hm
                            try simp only [dec_self]
                            conv => lhs; whnf
                            refine bif_pos (app_row hc59 (by first | rfl | simp only [List.length_map]) (by first | rfl | simp only [List.length_map]) (by first | rfl | simp only [List.length_map, take_map_len]) (by kernel_rfl)) ?_
                            try simp only [lt]
                            have hp57 : (List.map encI (s34) : List (List AV)) ++ [[AV.int .i64 (x56)]] = List.map encI (s34 ++ ([x56] : List Int)) := by first | rfl | (rw [List.map_append]; rfl) | (rw [List.map_append]; done) | (simp only [List.map_append, List.map_cons, List.map_nil, List.nil_append, encI] <;> rfl)
                            have hl58 : List.length (List.map encI (s34) : List (List AV)) + List.length ([[AV.int .i64 (x56)]] : List (List AV)) = List.length (s34 ++ ([x56] : List Int)) := by simp only [List.length_map, List.length_append] <;> rfl
                            have hl58_b : List.length s34 + List.length ([[AV.int .i64 (x56)]] : List (List AV)) = List.length (s34 ++ ([x56] : List Int)) := by simp only [List.length_map, List.length_append] <;> rfl
                            have hl58_c : List.length s34 + List.length ([x56] : List Int) = List.length (s34 ++ ([x56] : List Int)) := by simp only [List.length_map, List.length_append] <;> rfl
                            first | simp only [hp57, hl58] | (simp only [List.length_map, take_map_len]; simp only [hp57, hl58_b, hl58_c])
                            try simp only [ls]
                            conv => lhs; whnf
                            exact cq (hcont40 (IntKind.i64.wrap (s33 + 1), (s34 ++ ([x56] : List Int))) (fun j => (bif Nat.beq j 1 then ((a36 1) + 1) else 0)) hm)
                          · simp only [hc55, ls]
                            conv => lhs; whnf
                            refine bif_or2 hm ?_ ?_ <;> clear hm <;> intro hc60 hm
                            · simp only [hc60, ls]
                              conv => lhs; whnf
                              refine bind_some2 hm ?_; clear hm; intro x61 hx61 hm
                              refine bif_pos (by first | exact idx_in hx61 | exact idx_in' hx61) ?_
                              simp only [idx_nth (f := encRow) hx61, ls]
                              conv => lhs; whnf
                              refine bind_some2 hm ?_; clear hm; intro x62 hx62 hm
                              refine bif_pos (by first | exact idx_in hx62 | exact idx_in' hx62) ?_
                              simp only [idx_nth (f := encI) hx62, ls]
                              conv => lhs; whnf
                              refine chk_some2 hm ?_; clear hm; intro hc65 hm
                              try simp only [dec_self]
                              conv => lhs; whnf
                              refine bif_pos (app_row hc65 (by first | rfl | simp only [List.length_map]) (by first | rfl | simp only [List.length_map]) (by first | rfl | simp only [List.length_map, take_map_len]) (by kernel_rfl)) ?_
                              try simp only [lt]
                              have hp63 : (List.map encI (s34) : List (List AV)) ++ [[AV.int .i64 (x62)]] = List.map encI (s34 ++ ([x62] : List Int)) := by first | rfl | (rw [List.map_append]; rfl) | (rw [List.map_append]; done) | (simp only [List.map_append, List.map_cons, List.map_nil, List.nil_append, encI] <;> rfl)
                              have hl64 : List.length (List.map encI (s34) : List (List AV)) + List.length ([[AV.int .i64 (x62)]] : List (List AV)) = List.length (s34 ++ ([x62] : List Int)) := by simp only [List.length_map, List.length_append] <;> rfl
                              have hl64_b : List.length s34 + List.length ([[AV.int .i64 (x62)]] : List (List AV)) = List.length (s34 ++ ([x62] : List Int)) := by simp only [List.length_map, List.length_append] <;> rfl
                              have hl64_c : List.length s34 + List.length ([x62] : List Int) = List.length (s34 ++ ([x62] : List Int)) := by simp only [List.length_map, List.length_append] <;> rfl
                              first | simp only [hp63, hl64] | (simp only [List.length_map, take_map_len]; simp only [hp63, hl64_b, hl64_c])
                              try simp only [ls]
                              conv => lhs; whnf
                              exact cq (hcont40 (IntKind.i64.wrap (s33 + 1), (s34 ++ ([x62] : List Int))) (fun j => (bif Nat.beq j 1 then ((a36 1) + 1) else 0)) hm)
                            · simp only [hc60, ls]
                              conv => lhs; whnf
                              refine bif_or2 hm ?_ ?_ <;> clear hm <;> intro hc66 hm
                              · simp only [hc66, ls]
                                conv => lhs; whnf
                                refine bind_some2 hm ?_; clear hm; intro x67 hx67 hm
                                try simp only [dec_self]
                                conv => lhs; whnf
                                try simp only [ls]
                                refine bif_pos (by first | exact idx_in hx67 | exact idx_in' hx67 | exact own_in hx67 | exact own_in' hx67 | (have q := idx_in hx67; simp only [List.length_set] at q; exact q) | (have q := own_in' hx67; simp only [List.length_set, Nat.zero_add] at q ⊢; exact q)) ?_
                                conv => lhs; whnf
                                try simp only [idx_nth (f := encI) hx67, dec_self, ls]
                                conv => lhs; whnf
                                refine bind_some2 hm ?_; clear hm; intro y68 hy68 hm
                                have hk69 : call false 39 [AV.bool ((x67 == 0))] [] = some (AV.int .i64 (y68), []) := (hc _ _ _).trans (ok_ref06_truth n (x67 == 0) y68 hy68)
                                try simp only [List.drop_zero, ls]
                                first | simp only [hk69] | rewrite [hk69]
                                try simp only [ls]
                                conv => lhs; whnf
                                refine bind_some2 hm ?_; clear hm; intro x70 hx70 hm
                                try simp only [dec_self]
                                conv => lhs; whnf
                                try simp only [ls]
                                refine bif_pos (by first | exact idx_in hx70 | exact idx_in' hx70 | exact own_in hx70 | exact own_in' hx70 | (have q := idx_in hx70; simp only [List.length_set] at q; exact q) | (have q := own_in' hx70; simp only [List.length_set, Nat.zero_add] at q ⊢; exact q)) ?_
                                conv => lhs; whnf
                                try simp only [idx_nth (f := encI) hx70, dec_self, ls]
                                conv => lhs; whnf
                                have hs71 : setNth (List.map encI s34) (IntKind.i64.wrap ((((s34).length : Nat) : Int) - 1)).toNat [AV.int .i64 (y68)] = List.map encI (List.set s34 (IntKind.i64.wrap ((((s34).length : Nat) : Int) - 1)).toNat y68) := by rw [setNth_eq, List.map_set]; rfl
                                have hs71_u : setNth (List.map encI s34) (IntKind.i64.wrap ((((s34).length : Nat) : Int) - 1)).toNat (updL (encI x70) 0 [AV.int .i64 (y68)]) = List.map encI (List.set s34 (IntKind.i64.wrap ((((s34).length : Nat) : Int) - 1)).toNat y68) := by rw [setNth_eq, List.map_set]; rfl
                                try simp only [idx_nth (f := encI) hx70, dec_self]
                                conv => lhs; whnf
                                try simp only [hs71, hs71_u, dec_self]
                                conv => lhs; whnf
                                exact cq (hcont40 (IntKind.i64.wrap (s33 + 1), (List.set s34 (IntKind.i64.wrap ((((s34).length : Nat) : Int) - 1)).toNat y68)) (fun j => (bif Nat.beq j 1 then (a36 1) else 0)) hm)
                              · simp only [hc66, ls]
                                conv => lhs; whnf
                                refine bind_some2 hm ?_; clear hm; intro x72 hx72 hm
                                try simp only [dec_self]
                                conv => lhs; whnf
                                try simp only [ls]
                                refine bif_pos (by first | exact idx_in hx72 | exact idx_in' hx72 | exact own_in hx72 | exact own_in' hx72 | (have q := idx_in hx72; simp only [List.length_set] at q; exact q) | (have q := own_in' hx72; simp only [List.length_set, Nat.zero_add] at q ⊢; exact q)) ?_
                                conv => lhs; whnf
                                try simp only [idx_nth (f := encI) hx72, dec_self, ls]
                                conv => lhs; whnf
                                refine bind_some2 hm ?_; clear hm; intro x73 hx73 hm
                                try simp only [dec_self]
                                conv => lhs; whnf
                                try simp only [ls]
                                refine bif_pos (by first | exact idx_in hx73 | exact idx_in' hx73 | exact own_in hx73 | exact own_in' hx73 | (have q := idx_in hx73; simp only [List.length_set] at q; exact q) | (have q := own_in' hx73; simp only [List.length_set, Nat.zero_add] at q ⊢; exact q)) ?_
                                conv => lhs; whnf
                                try simp only [idx_nth (f := encI) hx73, dec_self, ls]
                                conv => lhs; whnf
                                refine bind_some2 hm ?_; clear hm; intro y74 hy74 hm
                                have hk75 : call false 40 [AV.int .i64 (x44.op), AV.int .i64 (x72), AV.int .i64 (x73), AV.int .i64 (v1_mod)] [] = some (AV.int .i64 (y74), []) := (hc _ _ _).trans (ok_ref06_two n x44.op x72 x73 v1_mod y74 hy74)
                                try simp only [List.drop_zero, ls]
                                first | simp only [hk75] | rewrite [hk75]
                                try simp only [ls]
                                conv => lhs; whnf
                                refine bind_some2 hm ?_; clear hm; intro x76 hx76 hm
                                try simp only [dec_self]
                                conv => lhs; whnf
                                try simp only [ls]
                                refine bif_pos (by first | exact idx_in hx76 | exact idx_in' hx76 | exact own_in hx76 | exact own_in' hx76 | (have q := idx_in hx76; simp only [List.length_set] at q; exact q) | (have q := own_in' hx76; simp only [List.length_set, Nat.zero_add] at q ⊢; exact q)) ?_
                                conv => lhs; whnf
                                try simp only [idx_nth (f := encI) hx76, dec_self, ls]
                                conv => lhs; whnf
                                have hs77 : setNth (List.map encI s34) (IntKind.i64.wrap ((((s34).length : Nat) : Int) - 2)).toNat [AV.int .i64 (y74)] = List.map encI (List.set s34 (IntKind.i64.wrap ((((s34).length : Nat) : Int) - 2)).toNat y74) := by rw [setNth_eq, List.map_set]; rfl
                                have hs77_u : setNth (List.map encI s34) (IntKind.i64.wrap ((((s34).length : Nat) : Int) - 2)).toNat (updL (encI x76) 0 [AV.int .i64 (y74)]) = List.map encI (List.set s34 (IntKind.i64.wrap ((((s34).length : Nat) : Int) - 2)).toNat y74) := by rw [setNth_eq, List.map_set]; rfl
                                try simp only [idx_nth (f := encI) hx76, dec_self]
                                conv => lhs; whnf
                                try simp only [hs77, hs77_u, dec_self]
                                conv => lhs; whnf
                                refine chk_some2 hm ?_; clear hm; intro hc79 hm
                                try simp only [dec_self]
                                conv => lhs; whnf
                                try simp only [ls]
                                first | refine bif_pos hc79 ?_ | (refine bif_pos (by have q := hc79; simp only [List.length_set] at q; exact q) ?_)
                                have hs78 : List.take ((IntKind.i64.wrap ((((s34).length : Nat) : Int) - 1)).toNat) (List.map encI (List.set s34 (IntKind.i64.wrap ((((s34).length : Nat) : Int) - 2)).toNat y74)) = List.map encI (List.take ((IntKind.i64.wrap ((((s34).length : Nat) : Int) - 1)).toNat) (List.set s34 (IntKind.i64.wrap ((((s34).length : Nat) : Int) - 2)).toNat y74)) := by rw [List.map_take]
                                have hs78_l : List.length (List.take ((IntKind.i64.wrap ((((s34).length : Nat) : Int) - 1)).toNat) (List.set s34 (IntKind.i64.wrap ((((s34).length : Nat) : Int) - 2)).toNat y74)) = (IntKind.i64.wrap ((((s34).length : Nat) : Int) - 1)).toNat := by simp only [List.length_take]; exact Nat.min_eq_left (cut_le hc79)
                                conv => lhs; whnf
                                try simp only [dec_self, hs78]
                                conv => lhs; whnf
                                try simp only [hs78]
                                have hs78_s : ∀ q, AV.stk 1 q ((IntKind.i64.wrap ((((s34).length : Nat) : Int) - 1)).toNat) = AV.stk 1 q (List.length (List.take ((IntKind.i64.wrap ((((s34).length : Nat) : Int) - 1)).toNat) (List.set s34 (IntKind.i64.wrap ((((s34).length : Nat) : Int) - 2)).toNat y74))) := fun q => by rw [hs78_l]
                                try simp only [hs78_s]
                                conv => lhs; whnf
                                exact cq (hcont40 (IntKind.i64.wrap (s33 + 1), (List.take ((IntKind.i64.wrap ((((s34).length : Nat) : Int) - 1)).toNat) (List.set s34 (IntKind.i64.wrap ((((s34).length : Nat) : Int) - 2)).toNat y74))) (fun j => (bif Nat.beq j 1 then ((a36 1) + 1) else 0)) hm)
                    · simp only [hc43, ls]
                      conv => lhs; whnf
                      have hq := Option.some.inj hm; clear hm; subst hq
                      exact kq (hr41 (fun j => (bif Nat.beq j 1 then (a36 1) else 0)))
                  · cases o42 with
                    | ret v =>
                      have hq := Option.some.inj hm; clear hm; subst hq
                      rfl
                    | out t =>
                      obtain ⟨x81, rfl⟩ : ∃ x, x = t := ⟨_, rfl⟩
                      intro a80
                      dsimp only at hm
                      conv => lhs; whnf
                      refine bind_some2 hm ?_; clear hm; intro x82 hx82 hm
                      try simp only [dec_self]
                      conv => lhs; whnf
                      try simp only [ls]
                      refine bif_pos (by first | exact idx_in hx82 | exact idx_in' hx82 | exact own_in hx82 | exact own_in' hx82 | (have q := idx_in hx82; simp only [List.length_set] at q; exact q) | (have q := own_in' hx82; simp only [List.length_set, Nat.zero_add] at q ⊢; exact q)) ?_
                      conv => lhs; whnf
                      try simp only [idx_nth (f := encI) hx82, dec_self, ls]
                      conv => lhs; whnf
                      have hq := Option.some.inj hm; clear hm; subst hq
                      try simp only [ls]
                      exact fq (y := some (AV.tup [AV.int .i64 (x82), AV.bool (true)], []))
                · simp only [hc32, ls]
                  conv => lhs; whnf
                  have hq := Option.some.inj hm; clear hm; subst hq
                  try simp only [ls]
                  exact fq (y := some (AV.tup [AV.int .i64 (0), AV.bool (false)], []))
          · simp only [hc8, ls]
            conv => lhs; whnf
            have hq := Option.some.inj hm; clear hm; subst hq
            try simp only [ls]
            exact fq (y := some (AV.tup [AV.int .i64 (0), AV.bool (false)], []))
        · simp only [hc5, ls]
          conv => lhs; whnf
          have hq := Option.some.inj hm; clear hm; subst hq
          try simp only [ls]
          exact fq (y := some (AV.tup [AV.int .i64 (0), AV.bool (false)], []))
end Go.Proofs.Ytmnnkeejgkhgpaa
end

section
namespace Go.Proofs.Ytmnnkeejgkhgpaa
set_option linter.unusedVariables false
set_option linter.unusedSimpArgs false
set_option maxRecDepth 100000

set_option maxHeartbeats 4000000 in
theorem ok_law06_CodeValues (n : Nat) : ∀ (v0_l : (List OpS)) (v1_s : S_law06_State) (r : Bool), m_law06_CodeValues n v0_l v1_s = some r → callN Try.prog HH XT n 4 [AV.sl 3 (List.map encOp (v0_l)), AV.agg [AV.int .i64 (v1_s.f_Mod), AV.sl 1 (List.map encI (v1_s.f_Own)), AV.sl 1 (List.map encRow (v1_s.f_All)), AV.sl 1 (List.map encI (v1_s.f_Mem))]] [] = some (AV.bool (r), []) := by
  cases n with
  | zero => intro v0_l v1_s r hm; exact absurd hm (by intro h; cases h)
  | succ n =>
    intro v0_l v1_s r hm
    rw [m_law06_CodeValues] at hm
    refine callN_eq' Try.func4 (by rfl) rfl rfl (Nat.le_of_ble_eq_true rfl) ?_
    intro call hc
    conv => lhs; whnf
    refine bif_or2 hm ?_ ?_ <;> clear hm <;> intro hc1 hm
    · simp only [hc1, ls]
      conv => lhs; whnf
      refine bind_some2 hm ?_; clear hm; intro y2 hy2 hm
      have hk3 : call false 10 [] [] = some (AV.bool (y2), []) := (hc _ _ _).trans (ok_law06_known n  y2 hy2)
      try simp only [List.drop_zero, ls]
      first | simp only [hk3] | rewrite [hk3]
      try simp only [ls]
      conv => lhs; whnf
      have hq := Option.some.inj hm; clear hm; subst hq
      try simp only [ls]
      exact fq (y := some (AV.bool (y2), []))
    · simp only [hc1, ls]
      conv => lhs; whnf
      refine bind_some2 hm ?_; clear hm; intro y4 hy4 hm
      have hk5 : call false 16 [AV.agg [AV.int .i64 (v1_s.f_Mod), AV.sl 1 (List.map encI (v1_s.f_Own)), AV.sl 1 (List.map encRow (v1_s.f_All)), AV.sl 1 (List.map encI (v1_s.f_Mem))]] [] = some (AV.bool (y4), []) := (hc _ _ _).trans (ok_law06_light n v1_s y4 hy4)
      try simp only [List.drop_zero, ls]
      first | simp only [hk5] | rewrite [hk5]
      try simp only [ls]
      conv => lhs; whnf
      refine bif_or2 hm ?_ ?_ <;> clear hm <;> intro hc6 hm
      · simp only [hc6, ls]
        conv => lhs; whnf
        refine chk_some2 hm ?_; clear hm; intro hc9 hm
        refine bif_pos (app_row hc9 (by first | rfl | simp only [List.length_map]) (by first | rfl | simp only [List.length_map]) (by first | rfl | simp only [List.length_map, take_map_len]) (by kernel_rfl)) ?_
        try simp only [lt]
        have hp7 : ([] : List (List AV)) ++ List.map encI (v1_s.f_Own) = List.map encI (([] : List Int) ++ v1_s.f_Own) := by first | rfl | (rw [List.map_append]; rfl) | (rw [List.map_append]; done) | (simp only [List.map_append, List.map_cons, List.map_nil, List.nil_append, encI] <;> rfl)
        have hl8 : List.length ([] : List (List AV)) + List.length (List.map encI (v1_s.f_Own) : List (List AV)) = List.length (([] : List Int) ++ v1_s.f_Own) := by simp only [List.length_map, List.length_append] <;> rfl
        have hl8_b : List.length ([] : List Int) + List.length (List.map encI (v1_s.f_Own) : List (List AV)) = List.length (([] : List Int) ++ v1_s.f_Own) := by simp only [List.length_map, List.length_append] <;> rfl
        have hl8_c : List.length ([] : List Int) + List.length v1_s.f_Own = List.length (([] : List Int) ++ v1_s.f_Own) := by simp only [List.length_map, List.length_append] <;> rfl
        first | simp only [hp7, hl8] | (simp only [List.length_map, take_map_len]; simp only [hp7, hl8_b, hl8_c])
        try simp only [ls]
        conv => lhs; whnf
        refine bind_some2 hm ?_; clear hm; intro y10 hy10 hm
        have hk11 : call false 17 [AV.sl 3 (List.map encOp (v0_l)), AV.int .i64 (v1_s.f_Mod), AV.sl 1 (List.map encI ((([] : List Int) ++ v1_s.f_Own))), AV.sl 1 (List.map encRow (v1_s.f_All)), AV.sl 1 (List.map encI (v1_s.f_Mem))] [] = some (AV.tup [AV.int .i64 ((y10).1), AV.bool ((y10).2)], []) := (hc _ _ _).trans (ok_code_Value n v0_l v1_s.f_Mod (([] : List Int) ++ v1_s.f_Own) v1_s.f_All v1_s.f_Mem y10 hy10)
        try simp only [List.length_nil, List.map_nil] at hk11
        try simp only [List.length_nil, List.map_nil]
        try simp only [List.drop_zero, ls]
        first | simp only [hk11] | rewrite [hk11]
        try simp only [ls]
        conv => lhs; whnf
        refine bind_some2 hm ?_; clear hm; intro y12 hy12 hm
        have hk13 : call false 18 [AV.sl 3 (List.map encOp (v0_l)), AV.int .i64 (v1_s.f_Mod), AV.sl 1 (List.map encI (v1_s.f_Own)), AV.sl 1 (List.map encRow (v1_s.f_All)), AV.sl 1 (List.map encI (v1_s.f_Mem))] [] = some (AV.tup [AV.int .i64 ((y12).1), AV.bool ((y12).2)], []) := (hc _ _ _).trans (ok_ref06_Value n v0_l v1_s.f_Mod v1_s.f_Own v1_s.f_All v1_s.f_Mem y12 hy12)
        try simp only [List.drop_zero, ls]
        first | simp only [hk13] | rewrite [hk13]
        try simp only [ls]
        conv => lhs; whnf
        refine bind_some2 hm ?_; clear hm; intro o22 ho22 hm
        refine rounds_sim (σ := Int) (τ := Unit) (ν := Bool) 0 (fun s14 a16 => stOf 106 [(0, AV.sl 3 (List.map encOp (v0_l))), (3, AV.ptr 0 0), (5, AV.row 1 (List.length ((([] : List Int) ++ v1_s.f_Own)))), (6, AV.int .i64 ((y10).1)), (7, AV.bool ((y10).2)), (8, AV.int .i64 ((y12).1)), (9, AV.bool ((y12).2)), (10, AV.int .i64 (s14))]) (fun s14 a16 => [Ob.var 41 [AV.int .i64 (v1_s.f_Mod), AV.sl 1 (List.map encI (v1_s.f_Own)), AV.sl 1 (List.map encRow (v1_s.f_All)), AV.sl 1 (List.map encI (v1_s.f_Mem))], Ob.row 3 1 (List.map encI (([] : List Int) ++ v1_s.f_Own))]) (fun _ a27 => stOf 106 [(0, AV.sl 3 (List.map encOp (v0_l))), (3, AV.ptr 0 0), (6, AV.int .i64 ((y10).1)), (7, AV.bool ((y10).2)), (8, AV.int .i64 ((y12).1)), (9, AV.bool ((y12).2))]) (fun _ a27 => [Ob.var 41 [AV.int .i64 (v1_s.f_Mod), AV.sl 1 (List.map encI (v1_s.f_Own)), AV.sl 1 (List.map encRow (v1_s.f_All)), AV.sl 1 (List.map encI (v1_s.f_Mem))], Ob.row 3 1 (List.map encI (([] : List Int) ++ v1_s.f_Own))]) (fun v => (AV.bool (v), [])) (fun k s => law06_CodeValues_L0 n v1_s k s) (fun s => rfl) o22 ?_ n 0 (fun _ => 0) _ _ ho22 ?_ (by first | rfl | (simp only [ls, List.map_append, List.map_cons, List.map_nil, List.append_nil, List.length_set, length_copyL] <;> rfl)) (by first | rfl | (simp only [ls, List.map_append, List.map_cons, List.map_nil, List.append_nil, List.length_set, length_copyL] <;> rfl))
        · intro k15 ss a16 K17 cont18 hK19 hcont20 hm hr21
          obtain ⟨s14, rfl⟩ : ∃ x, x = ss := ⟨_, rfl⟩
          replace hm : law06_CodeValues_L0 n v1_s (k15 + 1) s14 = some o22 := hm
          rw [law06_CodeValues_L0] at hm
          conv => lhs; whnf
          refine bif_or2 hm ?_ ?_ <;> clear hm <;> intro hc23 hm
          · simp only [hc23, ls]
            conv => lhs; whnf
            refine bind_some2 hm ?_; clear hm; intro x24 hx24 hm
            refine bif_pos (by first | exact idx_in hx24 | exact idx_in' hx24) ?_
            simp only [idx_nth (f := encI) hx24, ls]
            conv => lhs; whnf
            refine bind_some2 hm ?_; clear hm; intro x25 hx25 hm
            refine bif_pos (by first | exact idx_in hx25 | exact idx_in' hx25) ?_
            simp only [idx_nth (f := encI) hx25, ls]
            conv => lhs; whnf
            refine bif_or2 hm ?_ ?_ <;> clear hm <;> intro hc26 hm
            · simp only [hc26, ls]
              conv => lhs; whnf
              have hq := Option.some.inj hm; clear hm; subst hq
              refine (hK19 _ _).trans ?_
              refine Eq.trans ?_ (Eq.symm (show _ = some _ from hr21))
              conv => lhs; whnf
              try simp only [ls]
              exact fq (y := some (AV.bool (false), []))
            · simp only [hc26, ls]
              conv => lhs; whnf
              exact cq (hcont20 (IntKind.i64.wrap (s14 + 1)) (fun _ => 0) hm)
          · simp only [hc23, ls]
            conv => lhs; whnf
            have hq := Option.some.inj hm; clear hm; subst hq
            exact kq (hr21 (fun _ => 0))
        · cases o22 with
          | ret v =>
            have hq := Option.some.inj hm; clear hm; subst hq
            rfl
          | out t =>
            intro a27
            dsimp only at hm
            conv => lhs; whnf
            refine bif_or2 hm ?_ ?_ <;> clear hm <;> intro hc28 hm
            · simp only [hc28, ls]
              conv => lhs; whnf
              refine bif_or2 hm ?_ ?_ <;> clear hm <;> intro hc29 hm
              · simp only [hc29, ls]
                conv => lhs; whnf
                refine bind_some2 hm ?_; clear hm; intro y30 hy30 hm
                have hk31 : call false 19 [AV.sl 3 (List.map encOp (v0_l))] [] = some (AV.int .i64 (y30), []) := (hc _ _ _).trans (ok_code_Depth n v0_l y30 hy30)
                try simp only [List.drop_zero, ls]
                first | simp only [hk31] | rewrite [hk31]
                try simp only [ls]
                conv => lhs; whnf
                refine bind_some2 hm ?_; clear hm; intro y32 hy32 hm
                have hk33 : call false 20 [AV.sl 3 (List.map encOp (v0_l))] [] = some (AV.int .i64 (y32), []) := (hc _ _ _).trans (ok_ref06_Depth n v0_l y32 hy32)
                try simp only [List.drop_zero, ls]
                first | simp only [hk33] | rewrite [hk33]
                try simp only [ls]
                conv => lhs; whnf
                refine bif_or2 hm ?_ ?_ <;> clear hm <;> intro hc34 hm
                · simp only [hc34, ls]
                  conv => lhs; whnf
                  refine bind_some2 hm ?_; clear hm; intro y35 hy35 hm
                  have hk36 : call false 22 [AV.agg [AV.int .i64 (v1_s.f_Mod), AV.sl 1 (List.map encI (v1_s.f_Own)), AV.sl 1 (List.map encRow (v1_s.f_All)), AV.sl 1 (List.map encI (v1_s.f_Mem))]] [] = some (AV.sl 1 (List.map encI (y35)), []) := (hc _ _ _).trans (ok_law06_lengths n v1_s y35 hy35)
                  try simp only [List.drop_zero, ls]
                  first | simp only [hk36] | rewrite [hk36]
                  try simp only [ls]
                  conv => lhs; whnf
                  refine bind_some2 hm ?_; clear hm; intro y37 hy37 hm
                  have hk38 : call false 21 [AV.sl 3 (List.map encOp (v0_l)), AV.sl 1 (List.map encI (y35)), AV.int .i64 ((((v1_s.f_Own).length : Nat) : Int)), AV.int .i64 ((((v1_s.f_Mem).length : Nat) : Int))] [] = some (AV.bool (y37), []) := (hc _ _ _).trans (ok_code_Right n v0_l y35 (((v1_s.f_Own).length : Nat) : Int) (((v1_s.f_Mem).length : Nat) : Int) y37 hy37)
                  try simp only [List.drop_zero, ls]
                  first | simp only [hk38] | rewrite [hk38]
                  try simp only [ls]
                  conv => lhs; whnf
                  refine bind_some2 hm ?_; clear hm; intro y39 hy39 hm
                  have hk40 : call false 22 [AV.agg [AV.int .i64 (v1_s.f_Mod), AV.sl 1 (List.map encI (v1_s.f_Own)), AV.sl 1 (List.map encRow (v1_s.f_All)), AV.sl 1 (List.map encI (v1_s.f_Mem))]] [] = some (AV.sl 1 (List.map encI (y39)), []) := (hc _ _ _).trans (ok_law06_lengths n v1_s y39 hy39)
                  try simp only [List.drop_zero, ls]
                  first | simp only [hk40] | rewrite [hk40]
                  try simp only [ls]
                  conv => lhs; whnf
                  refine bind_some2 hm ?_; clear hm; intro y41 hy41 hm
                  have hk42 : call false 23 [AV.sl 3 (List.map encOp (v0_l)), AV.sl 1 (List.map encI (y39)), AV.int .i64 ((((v1_s.f_Own).length : Nat) : Int)), AV.int .i64 ((((v1_s.f_Mem).length : Nat) : Int))] [] = some (AV.bool (y41), []) := (hc _ _ _).trans (ok_ref06_Right n v0_l y39 (((v1_s.f_Own).length : Nat) : Int) (((v1_s.f_Mem).length : Nat) : Int) y41 hy41)
                  try simp only [List.drop_zero, ls]
                  first | simp only [hk42] | rewrite [hk42]
                  try simp only [ls]
                  conv => lhs; whnf
                  refine bif_or2 hm ?_ ?_ <;> clear hm <;> intro hc43 hm
                  · simp only [hc43, ls]
                    conv => lhs; whnf
                    refine bind_some2 hm ?_; clear hm; intro y44 hy44 hm
                    have hk45 : call false 10 [] [] = some (AV.bool (y44), []) := (hc _ _ _).trans (ok_law06_known n  y44 hy44)
                    try simp only [List.drop_zero, ls]
                    first | simp only [hk45] | rewrite [hk45]
                    try simp only [ls]
                    conv => lhs; whnf
                    have hq := Option.some.inj hm; clear hm; subst hq
                    try simp only [ls]
                    exact fq (y := some (AV.bool (y44), []))
                  · simp only [hc43, ls]
                    conv => lhs; whnf
                    have hq := Option.some.inj hm; clear hm; subst hq
                    try simp only [ls]
                    exact fq (y := some (AV.bool (false), []))
                · simp only [hc34, ls]
                  conv => lhs; whnf
                  have hq := Option.some.inj hm; clear hm; subst hq
                  try simp only [ls]
                  exact fq (y := some (AV.bool (false), []))
              · simp only [hc29, ls]
                conv => lhs; whnf
                have hq := Option.some.inj hm; clear hm; subst hq
                try simp only [ls]
                exact fq (y := some (AV.bool (false), []))
            · simp only [hc28, ls]
              conv => lhs; whnf
              have hq := Option.some.inj hm; clear hm; subst hq
              try simp only [ls]
              exact fq (y := some (AV.bool (false), []))
      · simp only [hc6, ls]
        conv => lhs; whnf
        refine bind_some2 hm ?_; clear hm; intro y47 hy47 hm
        have hk48 : call false 10 [] [] = some (AV.bool (y47), []) := (hc _ _ _).trans (ok_law06_known n  y47 hy47)
        try simp only [List.drop_zero, ls]
        first | simp only [hk48] | rewrite [hk48]
        try simp only [ls]
        conv => lhs; whnf
        have hq := Option.some.inj hm; clear hm; subst hq
        try simp only [ls]
        exact fq (y := some (AV.bool (y47), []))
end Go.Proofs.Ytmnnkeejgkhgpaa
end

