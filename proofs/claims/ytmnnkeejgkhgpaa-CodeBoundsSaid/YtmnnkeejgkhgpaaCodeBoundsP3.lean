/- Parts of the proofs: what they lean on. Conditions: none. -/
import Derived.Test.YtmnnkeejgkhgpaaCodeBoundsP2
section
namespace Go.Proofs.Ytmnnkeejgkhgpaa
set_option linter.unusedVariables false
set_option linter.unusedSimpArgs false
set_option maxRecDepth 100000

set_option maxHeartbeats 4000000 in
theorem ok_law06_CodeBounds (n : Nat) : ∀ (v0_l : (List S_api_Node)) (v1_mod : Int) (v2_own : (List Int)) (r : Bool), m_law06_CodeBounds n v0_l v1_mod v2_own = some r → callN Try.prog HH XT n 5 [AV.sl 5 (List.map c_api_Node (v0_l)), AV.int .u8 (v1_mod), AV.sl 1 (List.map (encK .u8) (v2_own))] [] = some (AV.bool (r), []) := by
  cases n with
  | zero => intro v0_l v1_mod v2_own r hm; exact absurd hm (by intro h; cases h)
  | succ n =>
    intro v0_l v1_mod v2_own r hm
    rw [m_law06_CodeBounds] at hm
    refine callN_eq' Try.func5 (by rfl) rfl rfl (Nat.le_of_ble_eq_true rfl) ?_
    intro call hc
    conv => lhs; whnf
    refine bind_some2 hm ?_; clear hm; intro y1 hy1 hm
    have hk2 : call false 8 [AV.sl 5 (List.map c_api_Node (v0_l))] [] = some (AV.bool (y1), []) := (hc _ _ _).trans (ok_ref02_Light n v0_l y1 hy1)
    try simp only [List.drop_zero, ls]
    first | simp only [hk2] | rewrite [hk2]
    try simp only [ls]
    conv => lhs; whnf
    refine bif_or2 hm ?_ ?_ <;> clear hm <;> intro hc3 hm
    · simp only [hc3, ls]
      conv => lhs; whnf
      refine bif_or2 hm ?_ ?_ <;> clear hm <;> intro hc4 hm
      · simp only [hc4, ls]
        conv => lhs; whnf
        refine bind_some2 hm ?_; clear hm; intro y5 hy5 hm
        have hk6 : call false 10 [] [] = some (AV.bool (y5), []) := (hc _ _ _).trans (ok_law06_known n  y5 hy5)
        try simp only [List.drop_zero, ls]
        first | simp only [hk6] | rewrite [hk6]
        try simp only [ls]
        conv => lhs; whnf
        have hq := Option.some.inj hm; clear hm; subst hq
        try simp only [ls]
        exact fq (y := some (AV.bool (y5), []))
      · simp only [hc4, ls]
        conv => lhs; whnf
        refine bind_some2 hm ?_; clear hm; intro y7 hy7 hm
        have hk8 : call false 11 [AV.sl 5 (List.map c_api_Node (v0_l)), AV.sl 1 [[AV.str (([97] : List UInt8))], [AV.str (([98] : List UInt8))], [AV.str (([114, 49] : List UInt8))]]] [] = some (AV.tup [AV.sl 3 (List.map encOp ((y7).1)), AV.bool ((y7).2)], []) := (hc _ _ _).trans (ok_code_Thread n v0_l ([([97] : List UInt8), ([98] : List UInt8), ([114, 49] : List UInt8)] : List (List UInt8)) y7 hy7)
        try simp only [List.drop_zero, ls]
        first | simp only [hk8] | rewrite [hk8]
        try simp only [ls]
        conv => lhs; whnf
        refine bif_or2 hm ?_ ?_ <;> clear hm <;> intro hc9 hm
        · simp only [hc9, ls]
          conv => lhs; whnf
          refine bind_some2 hm ?_; clear hm; intro o19 ho19 hm
          refine rounds_sim (σ := (Int × (List Int))) (τ := (List Int)) (ν := Bool) 0 (fun (s10, s11) a13 => stOf 101 [(2, AV.sl 1 (List.map (encK .u8) (v2_own))), (7, AV.int .i64 (IntKind.i64.wrap (2 + (Int.tmod (IntKind.i64.wrap (v1_mod)) 15)))), (9, AV.sl 3 (List.map encOp ((y7).1))), (11, AV.own 0 0 (List.length (s11))), (12, AV.int .i64 (s10))]) (fun (s10, s11) a13 => [Ob.arr 1 (List.map encI (s11))]) (fun x27 a26 => stOf 101 [(7, AV.int .i64 (IntKind.i64.wrap (2 + (Int.tmod (IntKind.i64.wrap (v1_mod)) 15)))), (9, AV.sl 3 (List.map encOp ((y7).1))), (11, AV.own 0 0 (List.length (x27)))]) (fun x27 a26 => [Ob.arr 1 (List.map encI (x27))]) (fun v => (AV.bool (v), [])) (fun k s => law06_CodeBounds_L0 n v1_mod v2_own k ((s).1) ((s).2)) (fun s => rfl) o19 ?_ n (0, ([0, 0, 0] : List Int)) (fun _ => 0) _ _ ho19 ?_ (by first | rfl | (simp only [ls, List.map_append, List.map_cons, List.map_nil, List.append_nil, List.length_set, length_copyL] <;> rfl)) (by first | rfl | (simp only [ls, List.map_append, List.map_cons, List.map_nil, List.append_nil, List.length_set, length_copyL] <;> rfl))
          · intro k12 ss a13 K14 cont15 hK16 hcont17 hm hr18
            obtain ⟨s10, s11⟩ := ss
            replace hm : law06_CodeBounds_L0 n v1_mod v2_own (k12 + 1) s10 s11 = some o19 := hm
            rw [law06_CodeBounds_L0] at hm
            conv => lhs; whnf
            refine bif_or2 hm ?_ ?_ <;> clear hm <;> intro hc20 hm
            · simp only [hc20, ls]
              conv => lhs; whnf
              refine bif_or2 hm ?_ ?_ <;> clear hm <;> intro hc21 hm
              · simp only [hc21, ls]
                conv => lhs; whnf
                refine bind_some2 hm ?_; clear hm; intro x22 hx22 hm
                refine bif_pos (by first | exact idx_in hx22 | exact idx_in' hx22) ?_
                simp only [idx_nth (f := (encK .u8)) hx22, ls]
                conv => lhs; whnf
                refine bif_or2 hm ?_ ?_ <;> clear hm <;> intro hc23 hm
                · cases hm
                · simp only [hc23, ls]
                  conv => lhs; whnf
                  refine bind_some2 hm ?_; clear hm; intro x24 hx24 hm
                  try simp only [ls]
                  refine bif_pos (by first | exact idx_in hx24 | exact idx_in' hx24 | exact own_in hx24 | exact own_in' hx24 | (have q := idx_in hx24; simp only [List.length_set] at q; exact q) | (have q := own_in' hx24; simp only [List.length_set, Nat.zero_add] at q ⊢; exact q)) ?_
                  conv => lhs; whnf
                  try simp only [Nat.zero_add, idx_nth (f := encI) hx24, dec_self, ls]
                  conv => lhs; whnf
                  have hs25 : setNth (List.map encI s11) (s10).toNat [AV.int .i64 ((Int.tmod (IntKind.i64.wrap (x22)) (IntKind.i64.wrap (2 + (Int.tmod (IntKind.i64.wrap (v1_mod)) 15)))))] = List.map encI (List.set s11 (s10).toNat (Int.tmod (IntKind.i64.wrap (x22)) (IntKind.i64.wrap (2 + (Int.tmod (IntKind.i64.wrap (v1_mod)) 15))))) := by rw [setNth_eq, List.map_set]; rfl
                  have hs25_u : setNth (List.map encI s11) (s10).toNat (updL (encI x24) 0 [AV.int .i64 ((Int.tmod (IntKind.i64.wrap (x22)) (IntKind.i64.wrap (2 + (Int.tmod (IntKind.i64.wrap (v1_mod)) 15)))))]) = List.map encI (List.set s11 (s10).toNat (Int.tmod (IntKind.i64.wrap (x22)) (IntKind.i64.wrap (2 + (Int.tmod (IntKind.i64.wrap (v1_mod)) 15))))) := by rw [setNth_eq, List.map_set]; rfl
                  try simp only [Nat.zero_add, idx_nth (f := encI) hx24]
                  conv => lhs; whnf
                  try simp only [hs25, hs25_u]
                  conv => lhs; whnf
                  exact cq (hcont17 (IntKind.i64.wrap (s10 + 1), (List.set s11 (s10).toNat (Int.tmod (IntKind.i64.wrap (x22)) (IntKind.i64.wrap (2 + (Int.tmod (IntKind.i64.wrap (v1_mod)) 15)))))) (fun _ => 0) hm)
              · simp only [hc21, ls]
                conv => lhs; whnf
                have hq := Option.some.inj hm; clear hm; subst hq
                exact kq (hr18 (fun _ => 0))
            · simp only [hc20, ls]
              conv => lhs; whnf
              have hq := Option.some.inj hm; clear hm; subst hq
              exact kq (hr18 (fun _ => 0))
          · cases o19 with
            | ret v =>
              have hq := Option.some.inj hm; clear hm; subst hq
              rfl
            | out t =>
              obtain ⟨x27, rfl⟩ : ∃ x, x = t := ⟨_, rfl⟩
              intro a26
              dsimp only at hm
              conv => lhs; whnf
              refine bind_some2 hm ?_; clear hm; intro y28 hy28 hm
              have hk29 : call false 17 [AV.sl 3 (List.map encOp ((y7).1)), AV.int .i64 (IntKind.i64.wrap (2 + (Int.tmod (IntKind.i64.wrap (v1_mod)) 15))), AV.sl 1 (List.map encI (x27)), AV.sl 1 [], AV.sl 1 []] [] = some (AV.tup [AV.int .i64 ((y28).1), AV.bool ((y28).2)], []) := (hc _ _ _).trans (ok_code_Value n ((y7).1) (IntKind.i64.wrap (2 + (Int.tmod (IntKind.i64.wrap (v1_mod)) 15))) x27 ([] : List (List Int)) ([] : List Int) y28 hy28)
              try simp only [List.length_nil, List.map_nil] at hk29
              try simp only [List.length_nil, List.map_nil]
              try simp only [List.drop_zero, ls]
              first | simp only [hk29] | rewrite [hk29]
              try simp only [ls]
              conv => lhs; whnf
              refine bind_some2 hm ?_; clear hm; intro y30 hy30 hm
              have hk31 : call false 19 [AV.sl 3 (List.map encOp ((y7).1))] [] = some (AV.int .i64 (y30), []) := (hc _ _ _).trans (ok_code_Depth n ((y7).1) y30 hy30)
              try simp only [List.drop_zero, ls]
              first | simp only [hk31] | rewrite [hk31]
              try simp only [ls]
              conv => lhs; whnf
              refine bif_or2 hm ?_ ?_ <;> clear hm <;> intro hc32 hm
              · simp only [hc32, ls]
                conv => lhs; whnf
                refine bif_or2 hm ?_ ?_ <;> clear hm <;> intro hc33 hm
                · simp only [hc33, ls]
                  conv => lhs; whnf
                  refine bif_or2 hm ?_ ?_ <;> clear hm <;> intro hc34 hm
                  · simp only [hc34, ls]
                    conv => lhs; whnf
                    refine bind_some2 hm ?_; clear hm; intro y35 hy35 hm
                    have hk36 : call false 21 [AV.sl 3 (List.map encOp ((y7).1)), AV.sl 1 [], AV.int .i64 (3), AV.int .i64 (0)] [] = some (AV.bool (y35), []) := (hc _ _ _).trans (ok_code_Right n ((y7).1) ([] : List Int) 3 0 y35 hy35)
                    try simp only [List.length_nil, List.map_nil] at hk36
                    try simp only [List.length_nil, List.map_nil]
                    try simp only [List.drop_zero, ls]
                    first | simp only [hk36] | rewrite [hk36]
                    try simp only [ls]
                    conv => lhs; whnf
                    refine bif_or2 hm ?_ ?_ <;> clear hm <;> intro hc37 hm
                    · simp only [hc37, ls]
                      conv => lhs; whnf
                      refine bif_or2 hm ?_ ?_ <;> clear hm <;> intro hc38 hm
                      · simp only [hc38, ls]
                        conv => lhs; whnf
                        refine bif_or2 hm ?_ ?_ <;> clear hm <;> intro hc39 hm
                        · simp only [hc39, ls]
                          conv => lhs; whnf
                          refine bind_some2 hm ?_; clear hm; intro y40 hy40 hm
                          have hk41 : call false 10 [] [] = some (AV.bool (y40), []) := (hc _ _ _).trans (ok_law06_known n  y40 hy40)
                          try simp only [List.drop_zero, ls]
                          first | simp only [hk41] | rewrite [hk41]
                          try simp only [ls]
                          conv => lhs; whnf
                          have hq := Option.some.inj hm; clear hm; subst hq
                          try simp only [ls]
                          exact fq (y := some (AV.bool (y40), []))
                        · simp only [hc39, ls]
                          conv => lhs; whnf
                          have hq := Option.some.inj hm; clear hm; subst hq
                          try simp only [ls]
                          exact fq (y := some (AV.bool (false), []))
                      · simp only [hc38, ls]
                        conv => lhs; whnf
                        have hq := Option.some.inj hm; clear hm; subst hq
                        try simp only [ls]
                        exact fq (y := some (AV.bool (false), []))
                    · simp only [hc37, ls]
                      conv => lhs; whnf
                      have hq := Option.some.inj hm; clear hm; subst hq
                      try simp only [ls]
                      exact fq (y := some (AV.bool (false), []))
                  · simp only [hc34, ls]
                    conv => lhs; whnf
                    have hq := Option.some.inj hm; clear hm; subst hq
                    try simp only [ls]
                    exact fq (y := some (AV.bool (false), []))
                · simp only [hc33, ls]
                  conv => lhs; whnf
                  have hq := Option.some.inj hm; clear hm; subst hq
                  try simp only [ls]
                  exact fq (y := some (AV.bool (false), []))
              · simp only [hc32, ls]
                conv => lhs; whnf
                have hq := Option.some.inj hm; clear hm; subst hq
                try simp only [ls]
                exact fq (y := some (AV.bool (false), []))
        · simp only [hc9, ls]
          conv => lhs; whnf
          refine bif_or2 hm ?_ ?_ <;> clear hm <;> intro hc43 hm
          · simp only [hc43, ls]
            conv => lhs; whnf
            refine bind_some2 hm ?_; clear hm; intro y44 hy44 hm
            have hk45 : call false 10 [] [] = some (AV.bool (y44), []) := (hc _ _ _).trans (ok_law06_known n  y44 hy44)
            try simp only [List.drop_zero, ls]
            first | simp only [hk45] | rewrite [hk45]
            try simp only [ls]
            conv => lhs; whnf
            have hq := Option.some.inj hm; clear hm; subst hq
            try simp only [ls]
            exact fq (y := some (AV.bool (y44), []))
          · simp only [hc43, ls]
            conv => lhs; whnf
            have hq := Option.some.inj hm; clear hm; subst hq
            try simp only [ls]
            exact fq (y := some (AV.bool (false), []))
    · simp only [hc3, ls]
      conv => lhs; whnf
      refine bind_some2 hm ?_; clear hm; intro y46 hy46 hm
      have hk47 : call false 10 [] [] = some (AV.bool (y46), []) := (hc _ _ _).trans (ok_law06_known n  y46 hy46)
      try simp only [List.drop_zero, ls]
      first | simp only [hk47] | rewrite [hk47]
      try simp only [ls]
      conv => lhs; whnf
      have hq := Option.some.inj hm; clear hm; subst hq
      try simp only [ls]
      exact fq (y := some (AV.bool (y46), []))
end Go.Proofs.Ytmnnkeejgkhgpaa
end

