/- Parts of the proofs: what they lean on. Conditions: none. -/
import Derived.Test.YtjobghbdfannfaaExprRightP1
section
namespace Go.Proofs.Ytjobghbdfannfaa
set_option linter.unusedVariables false
set_option linter.unusedSimpArgs false
set_option maxRecDepth 100000

set_option maxHeartbeats 4000000 in
theorem ok_expr_kids (n : Nat) : ∀ (v0_op : Int) (r : Int), m_expr_kids n v0_op = some r → callN Try.prog HH XT n 25 [AV.int .i64 (v0_op)] [] = some (AV.int .i64 (r), []) := by
  cases n with
  | zero => intro v0_op r hm; exact absurd hm (by intro h; cases h)
  | succ n =>
    intro v0_op r hm
    rw [m_expr_kids] at hm
    refine callN_eq' Try.func25 (by rfl) rfl rfl (Nat.le_of_ble_eq_true rfl) ?_
    intro call hc
    conv => lhs; whnf
    refine bif_or2 hm ?_ ?_ <;> clear hm <;> intro hc1 hm
    · simp only [hc1, ls]
      conv => lhs; whnf
      refine bif_or2 hm ?_ ?_ <;> clear hm <;> intro hc2 hm
      · simp only [hc2, ls]
        conv => lhs; whnf
        have hq := Option.some.inj hm; clear hm; subst hq
        try simp only [ls]
        exact fq (y := some (AV.int .i64 (0), []))
      · simp only [hc2, ls]
        conv => lhs; whnf
        refine bif_or2 hm ?_ ?_ <;> clear hm <;> intro hc3 hm
        · simp only [hc3, ls]
          conv => lhs; whnf
          have hq := Option.some.inj hm; clear hm; subst hq
          try simp only [ls]
          exact fq (y := some (AV.int .i64 (1), []))
        · simp only [hc3, ls]
          conv => lhs; whnf
          refine bif_or2 hm ?_ ?_ <;> clear hm <;> intro hc4 hm
          · simp only [hc4, ls]
            conv => lhs; whnf
            refine bif_or2 hm ?_ ?_ <;> clear hm <;> intro hc5 hm
            · simp only [hc5, ls]
              conv => lhs; whnf
              have hq := Option.some.inj hm; clear hm; subst hq
              try simp only [ls]
              exact fq (y := some (AV.int .i64 (2), []))
            · simp only [hc5, ls]
              conv => lhs; whnf
              have hq := Option.some.inj hm; clear hm; subst hq
              try simp only [ls]
              exact fq (y := some (AV.int .i64 ((-1)), []))
          · simp only [hc4, ls]
            conv => lhs; whnf
            have hq := Option.some.inj hm; clear hm; subst hq
            try simp only [ls]
            exact fq (y := some (AV.int .i64 ((-1)), []))
    · simp only [hc1, ls]
      conv => lhs; whnf
      refine bif_or2 hm ?_ ?_ <;> clear hm <;> intro hc6 hm
      · simp only [hc6, ls]
        conv => lhs; whnf
        have hq := Option.some.inj hm; clear hm; subst hq
        try simp only [ls]
        exact fq (y := some (AV.int .i64 (1), []))
      · simp only [hc6, ls]
        conv => lhs; whnf
        refine bif_or2 hm ?_ ?_ <;> clear hm <;> intro hc7 hm
        · simp only [hc7, ls]
          conv => lhs; whnf
          refine bif_or2 hm ?_ ?_ <;> clear hm <;> intro hc8 hm
          · simp only [hc8, ls]
            conv => lhs; whnf
            have hq := Option.some.inj hm; clear hm; subst hq
            try simp only [ls]
            exact fq (y := some (AV.int .i64 (2), []))
          · simp only [hc8, ls]
            conv => lhs; whnf
            have hq := Option.some.inj hm; clear hm; subst hq
            try simp only [ls]
            exact fq (y := some (AV.int .i64 ((-1)), []))
        · simp only [hc7, ls]
          conv => lhs; whnf
          have hq := Option.some.inj hm; clear hm; subst hq
          try simp only [ls]
          exact fq (y := some (AV.int .i64 ((-1)), []))

set_option maxHeartbeats 4000000 in
theorem ok_expr_End (n : Nat) : ∀ (v0_l : (List S_api_Node)) (v1_i : Int) (r : Int), m_expr_End n v0_l v1_i = some r → callN Try.prog HH XT n 12 [AV.sl 5 (List.map c_api_Node (v0_l)), AV.int .i64 (v1_i)] [] = some (AV.int .i64 (r), []) := by
  cases n with
  | zero => intro v0_l v1_i r hm; exact absurd hm (by intro h; cases h)
  | succ n =>
    intro v0_l v1_i r hm
    rw [m_expr_End] at hm
    refine callN_eq' Try.func12 (by rfl) rfl rfl (Nat.le_of_ble_eq_true rfl) ?_
    intro call hc
    conv => lhs; whnf
    refine bif_or2 hm ?_ ?_ <;> clear hm <;> intro hc1 hm
    · simp only [hc1, ls]
      conv => lhs; whnf
      have hq := Option.some.inj hm; clear hm; subst hq
      try simp only [ls]
      exact fq (y := some (AV.int .i64 ((-1)), []))
    · simp only [hc1, ls]
      conv => lhs; whnf
      refine bind_some2 hm ?_; clear hm; intro o11 ho11 hm
      refine rounds_sim (σ := (Int × Int)) (τ := Unit) (ν := Int) 0 (fun (s2, s3) a5 => stOf 31 [(0, AV.sl 5 (List.map c_api_Node (v0_l))), (1, AV.int .i64 (s2)), (5, AV.int .i64 (s3))]) (fun (s2, s3) a5 => []) (fun _ a18 => stOf 31 []) (fun _ a18 => []) (fun v => (AV.int .i64 (v), [])) (fun k s => expr_End_L0 n v0_l k ((s).1) ((s).2)) (fun s => rfl) o11 ?_ n (v1_i, 1) (fun _ => 0) _ _ ho11 ?_ (by first | rfl | (simp only [ls, List.map_append, List.map_cons, List.map_nil, List.append_nil, List.length_set, length_copyL] <;> rfl)) (by first | rfl | (simp only [ls, List.map_append, List.map_cons, List.map_nil, List.append_nil, List.length_set, length_copyL] <;> rfl))
      · intro k4 ss a5 K6 cont7 hK8 hcont9 hm hr10
        obtain ⟨s2, s3⟩ := ss
        replace hm : expr_End_L0 n v0_l (k4 + 1) s2 s3 = some o11 := hm
        rw [expr_End_L0] at hm
        conv => lhs; whnf
        refine bif_or2 hm ?_ ?_ <;> clear hm <;> intro hc12 hm
        · simp only [hc12, ls]
          conv => lhs; whnf
          refine bind_some2 hm ?_; clear hm; intro x13 hx13 hm
          refine bif_pos (by first | exact idx_in hx13 | exact idx_in' hx13) ?_
          simp only [idx_nth (f := c_api_Node) hx13, ls]
          conv => lhs; whnf
          refine bind_some2 hm ?_; clear hm; intro y14 hy14 hm
          have hk15 : call false 25 [AV.int .i64 (x13.f_Op)] [] = some (AV.int .i64 (y14), []) := (hc _ _ _).trans (ok_expr_kids n x13.f_Op y14 hy14)
          try simp only [List.drop_zero, ls]
          first | simp only [hk15] | rewrite [hk15]
          try simp only [ls]
          conv => lhs; whnf
          refine bif_or2 hm ?_ ?_ <;> clear hm <;> intro hc16 hm
          · simp only [hc16, ls]
            conv => lhs; whnf
            have hq := Option.some.inj hm; clear hm; subst hq
            refine (hK8 _ _).trans ?_
            refine Eq.trans ?_ (Eq.symm (show _ = some _ from hr10))
            conv => lhs; whnf
            try simp only [ls]
            exact fq (y := some (AV.int .i64 ((-1)), []))
          · simp only [hc16, ls]
            conv => lhs; whnf
            refine bif_or2 hm ?_ ?_ <;> clear hm <;> intro hc17 hm
            · simp only [hc17, ls]
              conv => lhs; whnf
              have hq := Option.some.inj hm; clear hm; subst hq
              refine (hK8 _ _).trans ?_
              refine Eq.trans ?_ (Eq.symm (show _ = some _ from hr10))
              conv => lhs; whnf
              try simp only [ls]
              exact fq (y := some (AV.int .i64 (IntKind.i64.wrap (s2 + 1)), []))
            · simp only [hc17, ls]
              conv => lhs; whnf
              exact cq (hcont9 (IntKind.i64.wrap (s2 + 1), IntKind.i64.wrap (s3 + (IntKind.i64.wrap (y14 - 1)))) (fun _ => 0) hm)
        · simp only [hc12, ls]
          conv => lhs; whnf
          have hq := Option.some.inj hm; clear hm; subst hq
          exact kq (hr10 (fun _ => 0))
      · cases o11 with
        | ret v =>
          have hq := Option.some.inj hm; clear hm; subst hq
          rfl
        | out t =>
          intro a18
          dsimp only at hm
          conv => lhs; whnf
          have hq := Option.some.inj hm; clear hm; subst hq
          try simp only [ls]
          exact fq (y := some (AV.int .i64 ((-1)), []))

set_option maxHeartbeats 4000000 in
theorem ok_expr_depth (n : Nat) : ∀ (v0_l : (List S_api_Node)) (r : Int), m_expr_depth n v0_l = some r → callN Try.prog HH XT n 22 [AV.sl 5 (List.map c_api_Node (v0_l))] [] = some (AV.int .i64 (r), []) := by
  cases n with
  | zero => intro v0_l r hm; exact absurd hm (by intro h; cases h)
  | succ n =>
    intro v0_l r hm
    rw [m_expr_depth] at hm
    refine callN_eq' Try.func22 (by rfl) rfl rfl (Nat.le_of_ble_eq_true rfl) ?_
    intro call hc
    conv => lhs; whnf
    refine bind_some2 hm ?_; clear hm; intro o11 ho11 hm
    refine rounds_sim (σ := (Int × Int × (List Int))) (τ := (Int × (List Int))) (ν := Int) 0 (fun (s1, s2, s3) a5 => stOf 50 [(3, AV.stk 0 (a5 0) (List.length (s3))), (4, AV.int .i64 (s1)), (9, AV.sl 5 (List.map c_api_Node (v0_l))), (10, AV.int .i64 ((((v0_l).length : Nat) : Int))), (11, AV.int .i64 (s2))]) (fun (s1, s2, s3) a5 => [Ob.stk (a5 0) 3 1 (List.map encI (s3))]) (fun (x41, x42) a40 => stOf 50 [(4, AV.int .i64 (x41))]) (fun (x41, x42) a40 => [Ob.stk (a40 0) 3 1 (List.map encI (x42))]) (fun v => (AV.int .i64 (v), [])) (fun k s => expr_depth_L0 n v0_l k ((s).1) ((s).2.1) ((s).2.2)) (fun s => rfl) o11 ?_ n (0, 0, ([] : List Int)) (fun j => (bif Nat.beq j 0 then 0 else 0)) _ _ ho11 ?_ (by first | rfl | (simp only [ls, List.map_append, List.map_cons, List.map_nil, List.append_nil, List.length_set, length_copyL] <;> rfl)) (by first | rfl | (simp only [ls, List.map_append, List.map_cons, List.map_nil, List.append_nil, List.length_set, length_copyL] <;> rfl))
    · intro k4 ss a5 K6 cont7 hK8 hcont9 hm hr10
      obtain ⟨s1, s2, s3⟩ := ss
      replace hm : expr_depth_L0 n v0_l (k4 + 1) s1 s2 s3 = some o11 := hm
      rw [expr_depth_L0] at hm
      conv => lhs; whnf
      refine bif_or2 hm ?_ ?_ <;> clear hm <;> intro hc12 hm
      · simp only [hc12, ls]
        conv => lhs; whnf
        refine bind_some2 hm ?_; clear hm; intro x13 hx13 hm
        refine bif_pos (by first | exact idx_in hx13 | exact idx_in' hx13) ?_
        simp only [idx_nth (f := c_api_Node) hx13, ls]
        conv => lhs; whnf
        refine bind_some2 hm ?_; clear hm; intro y14 hy14 hm
        have hk15 : call false 25 [AV.int .i64 (x13.f_Op)] [] = some (AV.int .i64 (y14), []) := (hc _ _ _).trans (ok_expr_kids n x13.f_Op y14 hy14)
        try simp only [List.drop_zero, ls]
        first | simp only [hk15] | rewrite [hk15]
        try simp only [ls]
        conv => lhs; whnf
        refine bif_or2 hm ?_ ?_ <;> clear hm <;> intro hc16 hm
        · simp only [hc16, ls]
          conv => lhs; whnf
          refine chk_some2 hm ?_; clear hm; intro hc19 hm
          try simp only [dec_self]
          conv => lhs; whnf
          refine bif_pos (app_row hc19 (by first | rfl | simp only [List.length_map]) (by first | rfl | simp only [List.length_map]) (by first | rfl | simp only [List.length_map, take_map_len]) (by kernel_rfl)) ?_
          try simp only [lt]
          have hp17 : (List.map encI (s3) : List (List AV)) ++ [[AV.int .i64 (y14)]] = List.map encI (s3 ++ ([y14] : List Int)) := by first | rfl | (rw [List.map_append]; rfl) | (rw [List.map_append]; done) | (simp only [List.map_append, List.map_cons, List.map_nil, List.nil_append, encI] <;> rfl)
          have hl18 : List.length (List.map encI (s3) : List (List AV)) + List.length ([[AV.int .i64 (y14)]] : List (List AV)) = List.length (s3 ++ ([y14] : List Int)) := by simp only [List.length_map, List.length_append] <;> rfl
          have hl18_b : List.length s3 + List.length ([[AV.int .i64 (y14)]] : List (List AV)) = List.length (s3 ++ ([y14] : List Int)) := by simp only [List.length_map, List.length_append] <;> rfl
          have hl18_c : List.length s3 + List.length ([y14] : List Int) = List.length (s3 ++ ([y14] : List Int)) := by simp only [List.length_map, List.length_append] <;> rfl
          first | simp only [hp17, hl18] | (simp only [List.length_map, take_map_len]; simp only [hp17, hl18_b, hl18_c])
          try simp only [ls]
          conv => lhs; whnf
          exact cq (hcont9 ((if s1 < (((s3).length : Nat) : Int) then (((s3).length : Nat) : Int) else s1), IntKind.i64.wrap (s2 + 1), (s3 ++ ([y14] : List Int))) (fun j => (bif Nat.beq j 0 then ((a5 0) + 1) else 0)) hm)
        · simp only [hc16, ls]
          conv => lhs; whnf
          refine bind_some2 hm ?_; clear hm; intro o28 ho28 hm
          refine rounds_sim (σ := (List Int)) (τ := (List Int)) (ν := Int) 2 (fun s20 a22 => stOf 50 [(3, AV.stk 0 (a22 0) (List.length (s20))), (4, AV.int .i64 ((if s1 < (((s3).length : Nat) : Int) then (((s3).length : Nat) : Int) else s1))), (9, AV.sl 5 (List.map c_api_Node (v0_l))), (10, AV.int .i64 ((((v0_l).length : Nat) : Int))), (11, AV.int .i64 (s2))]) (fun s20 a22 => [Ob.stk (a22 0) 3 1 (List.map encI (s20)), Ob.var 32 [AV.int .i64 (x13.f_Op), AV.int .i64 (x13.f_N), AV.str (x13.f_Name), AV.str (x13.f_In), AV.int .i64 (x13.f_At)]]) (fun x38 a37 => stOf 50 [(3, AV.stk 0 (a37 0) (List.length (x38))), (4, AV.int .i64 ((if s1 < (((s3).length : Nat) : Int) then (((s3).length : Nat) : Int) else s1))), (9, AV.sl 5 (List.map c_api_Node (v0_l))), (10, AV.int .i64 ((((v0_l).length : Nat) : Int))), (11, AV.int .i64 (s2))]) (fun x38 a37 => [Ob.stk (a37 0) 3 1 (List.map encI (x38)), Ob.var 32 [AV.int .i64 (x13.f_Op), AV.int .i64 (x13.f_N), AV.str (x13.f_Name), AV.str (x13.f_In), AV.int .i64 (x13.f_At)]]) (fun v => (AV.int .i64 (v), [])) (fun k s => expr_depth_L1 n k s) (fun s => rfl) o28 ?_ n s3 (fun j => (bif Nat.beq j 0 then (a5 0) else 0)) _ _ ho28 ?_ (by first | rfl | (simp only [ls, List.map_append, List.map_cons, List.map_nil, List.append_nil, List.length_set, length_copyL] <;> rfl)) (by first | rfl | (simp only [ls, List.map_append, List.map_cons, List.map_nil, List.append_nil, List.length_set, length_copyL] <;> rfl))
          · intro k21 ss a22 K23 cont24 hK25 hcont26 hm hr27
            obtain ⟨s20, rfl⟩ : ∃ x, x = ss := ⟨_, rfl⟩
            replace hm : expr_depth_L1 n (k21 + 1) s20 = some o28 := hm
            rw [expr_depth_L1] at hm
            conv => lhs; whnf
            refine bif_or2 hm ?_ ?_ <;> clear hm <;> intro hc29 hm
            · simp only [hc29, ls]
              conv => lhs; whnf
              refine bind_some2 hm ?_; clear hm; intro x30 hx30 hm
              try simp only [dec_self]
              conv => lhs; whnf
              try simp only [ls]
              refine bif_pos (by first | exact idx_in hx30 | exact idx_in' hx30 | exact own_in hx30 | exact own_in' hx30 | (have q := idx_in hx30; simp only [List.length_set] at q; exact q) | (have q := own_in' hx30; simp only [List.length_set, Nat.zero_add] at q ⊢; exact q)) ?_
              conv => lhs; whnf
              try simp only [idx_nth (f := encI) hx30, dec_self, ls]
              conv => lhs; whnf
              refine bind_some2 hm ?_; clear hm; intro x31 hx31 hm
              try simp only [dec_self]
              conv => lhs; whnf
              try simp only [ls]
              refine bif_pos (by first | exact idx_in hx31 | exact idx_in' hx31 | exact own_in hx31 | exact own_in' hx31 | (have q := idx_in hx31; simp only [List.length_set] at q; exact q) | (have q := own_in' hx31; simp only [List.length_set, Nat.zero_add] at q ⊢; exact q)) ?_
              conv => lhs; whnf
              try simp only [idx_nth (f := encI) hx31, dec_self, ls]
              conv => lhs; whnf
              have hs32 : setNth (List.map encI s20) (IntKind.i64.wrap ((((s20).length : Nat) : Int) - 1)).toNat [AV.int .i64 (IntKind.i64.wrap (x30 - 1))] = List.map encI (List.set s20 (IntKind.i64.wrap ((((s20).length : Nat) : Int) - 1)).toNat (IntKind.i64.wrap (x30 - 1))) := by rw [setNth_eq, List.map_set]; rfl
              have hs32_u : setNth (List.map encI s20) (IntKind.i64.wrap ((((s20).length : Nat) : Int) - 1)).toNat (updL (encI x31) 0 [AV.int .i64 (IntKind.i64.wrap (x30 - 1))]) = List.map encI (List.set s20 (IntKind.i64.wrap ((((s20).length : Nat) : Int) - 1)).toNat (IntKind.i64.wrap (x30 - 1))) := by rw [setNth_eq, List.map_set]; rfl
              try simp only [idx_nth (f := encI) hx31, dec_self]
              conv => lhs; whnf
              try simp only [hs32, hs32_u, dec_self]
              conv => lhs; whnf
              refine bind_some2 hm ?_; clear hm; intro x33 hx33 hm
              try simp only [dec_self]
              conv => lhs; whnf
              try simp only [ls]
              refine bif_pos (by first | exact idx_in hx33 | exact idx_in' hx33 | exact own_in hx33 | exact own_in' hx33 | (have q := idx_in hx33; simp only [List.length_set] at q; exact q) | (have q := own_in' hx33; simp only [List.length_set, Nat.zero_add] at q ⊢; exact q)) ?_
              conv => lhs; whnf
              try simp only [idx_nth (f := encI) hx33, dec_self, ls]
              conv => lhs; whnf
              refine bif_or2 hm ?_ ?_ <;> clear hm <;> intro hc34 hm
              · simp only [hc34, ls]
                conv => lhs; whnf
                have hq := Option.some.inj hm; clear hm; subst hq
                exact kq (hr27 (fun j => (bif Nat.beq j 0 then (a22 0) else 0)))
              · simp only [hc34, ls]
                conv => lhs; whnf
                refine chk_some2 hm ?_; clear hm; intro hc36 hm
                try simp only [dec_self]
                conv => lhs; whnf
                try simp only [ls]
                first | refine bif_pos hc36 ?_ | (refine bif_pos (by have q := hc36; simp only [List.length_set] at q; exact q) ?_)
                have hs35 : List.take ((IntKind.i64.wrap ((((s20).length : Nat) : Int) - 1)).toNat) (List.map encI (List.set s20 (IntKind.i64.wrap ((((s20).length : Nat) : Int) - 1)).toNat (IntKind.i64.wrap (x30 - 1)))) = List.map encI (List.take ((IntKind.i64.wrap ((((s20).length : Nat) : Int) - 1)).toNat) (List.set s20 (IntKind.i64.wrap ((((s20).length : Nat) : Int) - 1)).toNat (IntKind.i64.wrap (x30 - 1)))) := by rw [List.map_take]
                have hs35_l : List.length (List.take ((IntKind.i64.wrap ((((s20).length : Nat) : Int) - 1)).toNat) (List.set s20 (IntKind.i64.wrap ((((s20).length : Nat) : Int) - 1)).toNat (IntKind.i64.wrap (x30 - 1)))) = (IntKind.i64.wrap ((((s20).length : Nat) : Int) - 1)).toNat := by simp only [List.length_take]; exact Nat.min_eq_left (cut_le hc36)
                conv => lhs; whnf
                try simp only [dec_self, hs35]
                conv => lhs; whnf
                try simp only [hs35]
                have hs35_s : ∀ q, AV.stk 0 q ((IntKind.i64.wrap ((((s20).length : Nat) : Int) - 1)).toNat) = AV.stk 0 q (List.length (List.take ((IntKind.i64.wrap ((((s20).length : Nat) : Int) - 1)).toNat) (List.set s20 (IntKind.i64.wrap ((((s20).length : Nat) : Int) - 1)).toNat (IntKind.i64.wrap (x30 - 1))))) := fun q => by rw [hs35_l]
                try simp only [hs35_s]
                conv => lhs; whnf
                exact cq (hcont26 (List.take ((IntKind.i64.wrap ((((s20).length : Nat) : Int) - 1)).toNat) (List.set s20 (IntKind.i64.wrap ((((s20).length : Nat) : Int) - 1)).toNat (IntKind.i64.wrap (x30 - 1)))) (fun j => (bif Nat.beq j 0 then ((a22 0) + 1) else 0)) hm)
            · simp only [hc29, ls]
              conv => lhs; whnf
              have hq := Option.some.inj hm; clear hm; subst hq
              exact kq (hr27 (fun j => (bif Nat.beq j 0 then (a22 0) else 0)))
          · cases o28 with
            | ret v =>
              have hq := Option.some.inj hm; clear hm; subst hq
              exact hr10
            | out t =>
              obtain ⟨x38, rfl⟩ : ∃ x, x = t := ⟨_, rfl⟩
              intro a37
              dsimp only at hm
              conv => lhs; whnf
              exact cq (hcont9 ((if s1 < (((s3).length : Nat) : Int) then (((s3).length : Nat) : Int) else s1), IntKind.i64.wrap (s2 + 1), x38) (fun j => (bif Nat.beq j 0 then (a37 0) else 0)) hm)
      · simp only [hc12, ls]
        conv => lhs; whnf
        have hq := Option.some.inj hm; clear hm; subst hq
        exact kq (hr10 (fun j => (bif Nat.beq j 0 then (a5 0) else 0)))
    · cases o11 with
      | ret v =>
        have hq := Option.some.inj hm; clear hm; subst hq
        rfl
      | out t =>
        obtain ⟨x41, x42⟩ := t
        intro a40
        dsimp only at hm
        conv => lhs; whnf
        have hq := Option.some.inj hm; clear hm; subst hq
        try simp only [ls]
        exact fq (y := some (AV.int .i64 (x41), []))

set_option maxHeartbeats 4000000 in
theorem ok_expr_fits (n : Nat) : ∀ (v0_x : S_api_Node) (r : Bool), m_expr_fits n v0_x = some r → callN Try.prog HH XT n 21 [AV.agg [AV.int .i64 (v0_x.f_Op), AV.int .i64 (v0_x.f_N), AV.str (v0_x.f_Name), AV.str (v0_x.f_In), AV.int .i64 (v0_x.f_At)]] [] = some (AV.bool (r), []) := by
  cases n with
  | zero => intro v0_x r hm; exact absurd hm (by intro h; cases h)
  | succ n =>
    intro v0_x r hm
    rw [m_expr_fits] at hm
    refine callN_eq' Try.func21 (by rfl) rfl rfl (Nat.le_of_ble_eq_true rfl) ?_
    intro call hc
    conv => lhs; whnf
    refine bif_or2 hm ?_ ?_ <;> clear hm <;> intro hc1 hm
    · simp only [hc1, ls]
      conv => lhs; whnf
      have hq := Option.some.inj hm; clear hm; subst hq
      try simp only [ls]
      exact fq (y := some (AV.bool (false), []))
    · simp only [hc1, ls]
      conv => lhs; whnf
      refine bif_or2 hm ?_ ?_ <;> clear hm <;> intro hc2 hm
      · simp only [hc2, ls]
        conv => lhs; whnf
        have hf5 : flatT Try.prog 32 = some (fieldsOf Try.prog 32) := by kernel_rfl
        simp only [hf5, List.length_map, take_map_len]
        conv => lhs; whnf
        refine bif_or2 hm ?_ ?_ <;> clear hm <;> intro hc3 hm
        · simp only [hc3, ls]
          conv => lhs; whnf
          refine bif_or2 hm ?_ ?_ <;> clear hm <;> intro hc4 hm
          · simp only [hc4, ls]
            conv => lhs; whnf
            have hq := Option.some.inj hm; clear hm; subst hq
            try simp only [ls]
            exact fq (y := some (AV.bool (decide (v0_x.f_N ≤ 9999)), []))
          · simp only [hc4, ls]
            conv => lhs; whnf
            have hq := Option.some.inj hm; clear hm; subst hq
            try simp only [ls]
            exact fq (y := some (AV.bool (false), []))
        · simp only [hc3, ls]
          conv => lhs; whnf
          have hq := Option.some.inj hm; clear hm; subst hq
          try simp only [ls]
          exact fq (y := some (AV.bool (false), []))
      · simp only [hc2, ls]
        conv => lhs; whnf
        refine bif_or2 hm ?_ ?_ <;> clear hm <;> intro hc6 hm
        · simp only [hc6, ls]
          conv => lhs; whnf
          refine bind_some2 hm ?_; clear hm; intro y7 hy7 hm
          have hk8 : call false 31 [AV.str (v0_x.f_In)] [] = some (AV.bool (y7), []) := (hc _ _ _).trans (ok_scan_Name n v0_x.f_In y7 hy7)
          try simp only [List.drop_zero, ls]
          first | simp only [hk8] | rewrite [hk8]
          try simp only [ls]
          conv => lhs; whnf
          refine bif_or2 hm ?_ ?_ <;> clear hm <;> intro hc9 hm
          · simp only [hc9, ls]
            conv => lhs; whnf
            have hf13 : flatT Try.prog 32 = some (fieldsOf Try.prog 32) := by kernel_rfl
            simp only [hf13, List.length_map, take_map_len]
            conv => lhs; whnf
            refine bif_or2 hm ?_ ?_ <;> clear hm <;> intro hc10 hm
            · simp only [hc10, ls]
              conv => lhs; whnf
              refine bind_some2 hm ?_; clear hm; intro y11 hy11 hm
              have hk12 : call false 31 [AV.str (v0_x.f_Name)] [] = some (AV.bool (y11), []) := (hc _ _ _).trans (ok_scan_Name n v0_x.f_Name y11 hy11)
              try simp only [List.drop_zero, ls]
              first | simp only [hk12] | rewrite [hk12]
              try simp only [ls]
              conv => lhs; whnf
              have hq := Option.some.inj hm; clear hm; subst hq
              try simp only [ls]
              exact fq (y := some (AV.bool (y11), []))
            · simp only [hc10, ls]
              conv => lhs; whnf
              have hq := Option.some.inj hm; clear hm; subst hq
              try simp only [ls]
              exact fq (y := some (AV.bool (false), []))
          · simp only [hc9, ls]
            conv => lhs; whnf
            have hq := Option.some.inj hm; clear hm; subst hq
            try simp only [ls]
            exact fq (y := some (AV.bool (false), []))
        · simp only [hc6, ls]
          conv => lhs; whnf
          refine bif_or2 hm ?_ ?_ <;> clear hm <;> intro hc14 hm
          · simp only [hc14, ls]
            conv => lhs; whnf
            have hf18 : flatT Try.prog 32 = some (fieldsOf Try.prog 32) := by kernel_rfl
            simp only [hf18, List.length_map, take_map_len]
            conv => lhs; whnf
            refine bif_or2 hm ?_ ?_ <;> clear hm <;> intro hc15 hm
            · simp only [hc15, ls]
              conv => lhs; whnf
              refine bind_some2 hm ?_; clear hm; intro y16 hy16 hm
              have hk17 : call false 31 [AV.str (v0_x.f_Name)] [] = some (AV.bool (y16), []) := (hc _ _ _).trans (ok_scan_Name n v0_x.f_Name y16 hy16)
              try simp only [List.drop_zero, ls]
              first | simp only [hk17] | rewrite [hk17]
              try simp only [ls]
              conv => lhs; whnf
              have hq := Option.some.inj hm; clear hm; subst hq
              try simp only [ls]
              exact fq (y := some (AV.bool (y16), []))
            · simp only [hc15, ls]
              conv => lhs; whnf
              have hq := Option.some.inj hm; clear hm; subst hq
              try simp only [ls]
              exact fq (y := some (AV.bool (false), []))
          · simp only [hc14, ls]
            conv => lhs; whnf
            refine bif_or2 hm ?_ ?_ <;> clear hm <;> intro hc19 hm
            · simp only [hc19, ls]
              conv => lhs; whnf
              have hf23 : flatT Try.prog 32 = some (fieldsOf Try.prog 32) := by kernel_rfl
              simp only [hf23, List.length_map, take_map_len]
              conv => lhs; whnf
              refine bif_or2 hm ?_ ?_ <;> clear hm <;> intro hc20 hm
              · simp only [hc20, ls]
                conv => lhs; whnf
                refine bind_some2 hm ?_; clear hm; intro y21 hy21 hm
                have hk22 : call false 31 [AV.str (v0_x.f_Name)] [] = some (AV.bool (y21), []) := (hc _ _ _).trans (ok_scan_Name n v0_x.f_Name y21 hy21)
                try simp only [List.drop_zero, ls]
                first | simp only [hk22] | rewrite [hk22]
                try simp only [ls]
                conv => lhs; whnf
                have hq := Option.some.inj hm; clear hm; subst hq
                try simp only [ls]
                exact fq (y := some (AV.bool (y21), []))
              · simp only [hc20, ls]
                conv => lhs; whnf
                have hq := Option.some.inj hm; clear hm; subst hq
                try simp only [ls]
                exact fq (y := some (AV.bool (false), []))
            · simp only [hc19, ls]
              conv => lhs; whnf
              have hf24 : flatT Try.prog 32 = some (fieldsOf Try.prog 32) := by kernel_rfl
              simp only [hf24, List.length_map, take_map_len]
              conv => lhs; whnf
              have hq := Option.some.inj hm; clear hm; subst hq
              try simp only [ls]
              exact fq (y := some (AV.bool (((v0_x.f_Op == v0_x.f_Op) && ((v0_x.f_N == 0) && ((v0_x.f_Name == ([] : List UInt8)) && ((v0_x.f_In == ([] : List UInt8)) && ((v0_x.f_At == v0_x.f_At) && true)))))), []))

set_option maxHeartbeats 4000000 in
theorem ok_expr_Right (n : Nat) : ∀ (v0_l : (List S_api_Node)) (r : Bool), m_expr_Right n v0_l = some r → callN Try.prog HH XT n 8 [AV.sl 5 (List.map c_api_Node (v0_l))] [] = some (AV.bool (r), []) := by
  cases n with
  | zero => intro v0_l r hm; exact absurd hm (by intro h; cases h)
  | succ n =>
    intro v0_l r hm
    rw [m_expr_Right] at hm
    refine callN_eq' Try.func8 (by rfl) rfl rfl (Nat.le_of_ble_eq_true rfl) ?_
    intro call hc
    conv => lhs; whnf
    refine bif_or2 hm ?_ ?_ <;> clear hm <;> intro hc1 hm
    · simp only [hc1, ls]
      conv => lhs; whnf
      have hq := Option.some.inj hm; clear hm; subst hq
      try simp only [ls]
      exact fq (y := some (AV.bool (false), []))
    · simp only [hc1, ls]
      conv => lhs; whnf
      refine bif_or2 hm ?_ ?_ <;> clear hm <;> intro hc2 hm
      · simp only [hc2, ls]
        conv => lhs; whnf
        have hq := Option.some.inj hm; clear hm; subst hq
        try simp only [ls]
        exact fq (y := some (AV.bool (false), []))
      · simp only [hc2, ls]
        conv => lhs; whnf
        refine bind_some2 hm ?_; clear hm; intro y3 hy3 hm
        have hk4 : call false 12 [AV.sl 5 (List.map c_api_Node (v0_l)), AV.int .i64 (0)] [] = some (AV.int .i64 (y3), []) := (hc _ _ _).trans (ok_expr_End n v0_l 0 y3 hy3)
        try simp only [List.drop_zero, ls]
        first | simp only [hk4] | rewrite [hk4]
        try simp only [ls]
        conv => lhs; whnf
        refine bif_or2 hm ?_ ?_ <;> clear hm <;> intro hc5 hm
        · simp only [hc5, ls]
          conv => lhs; whnf
          have hq := Option.some.inj hm; clear hm; subst hq
          try simp only [ls]
          exact fq (y := some (AV.bool (false), []))
        · simp only [hc5, ls]
          conv => lhs; whnf
          refine bind_some2 hm ?_; clear hm; intro o14 ho14 hm
          refine rounds_sim (σ := Int) (τ := Unit) (ν := Bool) 0 (fun s6 a8 => stOf 33 [(0, AV.sl 5 (List.map c_api_Node (v0_l))), (20, AV.sl 5 (List.map c_api_Node (v0_l))), (21, AV.int .i64 ((((v0_l).length : Nat) : Int))), (22, AV.int .i64 (s6))]) (fun s6 a8 => []) (fun _ a20 => stOf 33 [(0, AV.sl 5 (List.map c_api_Node (v0_l)))]) (fun _ a20 => []) (fun v => (AV.bool (v), [])) (fun k s => expr_Right_L0 n v0_l k s) (fun s => rfl) o14 ?_ n 0 (fun _ => 0) _ _ ho14 ?_ (by first | rfl | (simp only [ls, List.map_append, List.map_cons, List.map_nil, List.append_nil, List.length_set, length_copyL] <;> rfl)) (by first | rfl | (simp only [ls, List.map_append, List.map_cons, List.map_nil, List.append_nil, List.length_set, length_copyL] <;> rfl))
          · intro k7 ss a8 K9 cont10 hK11 hcont12 hm hr13
            obtain ⟨s6, rfl⟩ : ∃ x, x = ss := ⟨_, rfl⟩
            replace hm : expr_Right_L0 n v0_l (k7 + 1) s6 = some o14 := hm
            rw [expr_Right_L0] at hm
            conv => lhs; whnf
            refine bif_or2 hm ?_ ?_ <;> clear hm <;> intro hc15 hm
            · simp only [hc15, ls]
              conv => lhs; whnf
              refine bind_some2 hm ?_; clear hm; intro x16 hx16 hm
              refine bif_pos (by first | exact idx_in hx16 | exact idx_in' hx16) ?_
              simp only [idx_nth (f := c_api_Node) hx16, ls]
              conv => lhs; whnf
              refine bind_some2 hm ?_; clear hm; intro y17 hy17 hm
              have hk18 : call false 21 [AV.agg [AV.int .i64 (x16.f_Op), AV.int .i64 (x16.f_N), AV.str (x16.f_Name), AV.str (x16.f_In), AV.int .i64 (x16.f_At)]] [] = some (AV.bool (y17), []) := (hc _ _ _).trans (ok_expr_fits n x16 y17 hy17)
              try simp only [List.drop_zero, ls]
              first | simp only [hk18] | rewrite [hk18]
              try simp only [ls]
              conv => lhs; whnf
              refine bif_or2 hm ?_ ?_ <;> clear hm <;> intro hc19 hm
              · simp only [hc19, ls]
                conv => lhs; whnf
                exact cq (hcont12 (IntKind.i64.wrap (s6 + 1)) (fun _ => 0) hm)
              · simp only [hc19, ls]
                conv => lhs; whnf
                have hq := Option.some.inj hm; clear hm; subst hq
                refine (hK11 _ _).trans ?_
                refine Eq.trans ?_ (Eq.symm (show _ = some _ from hr13))
                conv => lhs; whnf
                try simp only [ls]
                exact fq (y := some (AV.bool (false), []))
            · simp only [hc15, ls]
              conv => lhs; whnf
              have hq := Option.some.inj hm; clear hm; subst hq
              exact kq (hr13 (fun _ => 0))
          · cases o14 with
            | ret v =>
              have hq := Option.some.inj hm; clear hm; subst hq
              rfl
            | out t =>
              intro a20
              dsimp only at hm
              conv => lhs; whnf
              refine bind_some2 hm ?_; clear hm; intro y21 hy21 hm
              have hk22 : call false 22 [AV.sl 5 (List.map c_api_Node (v0_l))] [] = some (AV.int .i64 (y21), []) := (hc _ _ _).trans (ok_expr_depth n v0_l y21 hy21)
              try simp only [List.drop_zero, ls]
              first | simp only [hk22] | rewrite [hk22]
              try simp only [ls]
              conv => lhs; whnf
              have hq := Option.some.inj hm; clear hm; subst hq
              try simp only [ls]
              exact fq (y := some (AV.bool (decide (y21 ≤ 30)), []))

set_option maxHeartbeats 4000000 in
theorem ok_expr_Depth (n : Nat) : ∀ (v0_l : (List S_api_Node)) (r : Int), m_expr_Depth n v0_l = some r → callN Try.prog HH XT n 10 [AV.sl 5 (List.map c_api_Node (v0_l))] [] = some (AV.int .i64 (r), []) := by
  cases n with
  | zero => intro v0_l r hm; exact absurd hm (by intro h; cases h)
  | succ n =>
    intro v0_l r hm
    rw [m_expr_Depth] at hm
    refine callN_eq' Try.func10 (by rfl) rfl rfl (Nat.le_of_ble_eq_true rfl) ?_
    intro call hc
    conv => lhs; whnf
    refine bind_some2 hm ?_; clear hm; intro y1 hy1 hm
    have hk2 : call false 8 [AV.sl 5 (List.map c_api_Node (v0_l))] [] = some (AV.bool (y1), []) := (hc _ _ _).trans (ok_expr_Right n v0_l y1 hy1)
    try simp only [List.drop_zero, ls]
    first | simp only [hk2] | rewrite [hk2]
    try simp only [ls]
    conv => lhs; whnf
    refine bif_or2 hm ?_ ?_ <;> clear hm <;> intro hc3 hm
    · simp only [hc3, ls]
      conv => lhs; whnf
      refine bind_some2 hm ?_; clear hm; intro y4 hy4 hm
      have hk5 : call false 22 [AV.sl 5 (List.map c_api_Node (v0_l))] [] = some (AV.int .i64 (y4), []) := (hc _ _ _).trans (ok_expr_depth n v0_l y4 hy4)
      try simp only [List.drop_zero, ls]
      first | simp only [hk5] | rewrite [hk5]
      try simp only [ls]
      conv => lhs; whnf
      have hq := Option.some.inj hm; clear hm; subst hq
      try simp only [ls]
      exact fq (y := some (AV.int .i64 (y4), []))
    · simp only [hc3, ls]
      conv => lhs; whnf
      have hq := Option.some.inj hm; clear hm; subst hq
      try simp only [ls]
      exact fq (y := some (AV.int .i64 ((-1)), []))

set_option maxHeartbeats 4000000 in
theorem ok_expr_Names (n : Nat) : ∀ (v0_l : (List S_api_Node)) (r : (List S_api_Node)), m_expr_Names n v0_l = some r → callN Try.prog HH XT n 17 [AV.sl 5 (List.map c_api_Node (v0_l))] [] = some (AV.sl 5 (List.map c_api_Node (r)), []) := by
  cases n with
  | zero => intro v0_l r hm; exact absurd hm (by intro h; cases h)
  | succ n =>
    intro v0_l r hm
    rw [m_expr_Names] at hm
    refine callN_eq' Try.func17 (by rfl) rfl rfl (Nat.le_of_ble_eq_true rfl) ?_
    intro call hc
    conv => lhs; whnf
    refine bind_some2 hm ?_; clear hm; intro o10 ho10 hm
    refine rounds_sim (σ := (Int × (List S_api_Node))) (τ := (List S_api_Node)) (ν := (List S_api_Node)) 0 (fun (s1, s2) a4 => stOf 24 [(3, AV.row 0 (List.length (s2))), (6, AV.sl 5 (List.map c_api_Node (v0_l))), (7, AV.int .i64 ((((v0_l).length : Nat) : Int))), (8, AV.int .i64 (s1))]) (fun (s1, s2) a4 => [Ob.row 32 5 (List.map c_api_Node (s2))]) (fun x26 a25 => stOf 24 [(3, AV.row 0 (List.length (x26)))]) (fun x26 a25 => [Ob.row 32 5 (List.map c_api_Node (x26))]) (fun v => (AV.sl 5 (List.map c_api_Node (v)), [])) (fun k s => expr_Names_L0 n v0_l k ((s).1) ((s).2)) (fun s => rfl) o10 ?_ n (0, ([] : List S_api_Node)) (fun _ => 0) _ _ ho10 ?_ (by first | rfl | (simp only [ls, List.map_append, List.map_cons, List.map_nil, List.append_nil, List.length_set, length_copyL] <;> rfl)) (by first | rfl | (simp only [ls, List.map_append, List.map_cons, List.map_nil, List.append_nil, List.length_set, length_copyL] <;> rfl))
    · intro k3 ss a4 K5 cont6 hK7 hcont8 hm hr9
      obtain ⟨s1, s2⟩ := ss
      replace hm : expr_Names_L0 n v0_l (k3 + 1) s1 s2 = some o10 := hm
      rw [expr_Names_L0] at hm
      conv => lhs; whnf
      refine bif_or2 hm ?_ ?_ <;> clear hm <;> intro hc11 hm
      · simp only [hc11, ls]
        conv => lhs; whnf
        refine bind_some2 hm ?_; clear hm; intro x12 hx12 hm
        refine bif_pos (by first | exact idx_in hx12 | exact idx_in' hx12) ?_
        simp only [idx_nth (f := c_api_Node) hx12, ls]
        conv => lhs; whnf
        refine bif_or2 hm ?_ ?_ <;> clear hm <;> intro hc13 hm
        · simp only [hc13, ls]
          conv => lhs; whnf
          refine chk_some2 hm ?_; clear hm; intro hc16 hm
          refine bif_pos (app_row hc16 (by first | rfl | simp only [List.length_map]) (by first | rfl | simp only [List.length_map]) (by first | rfl | simp only [List.length_map, take_map_len]) (by kernel_rfl)) ?_
          try simp only [lt]
          have hp14 : (List.map c_api_Node (s2) : List (List AV)) ++ [[AV.int .i64 (x12.f_Op), AV.int .i64 (x12.f_N), AV.str (x12.f_Name), AV.str (x12.f_In), AV.int .i64 (x12.f_At)]] = List.map c_api_Node (s2 ++ ([x12] : List S_api_Node)) := by first | rfl | (rw [List.map_append]; rfl) | (rw [List.map_append]; done) | (simp only [List.map_append, List.map_cons, List.map_nil, List.nil_append, c_api_Node] <;> rfl)
          have hl15 : List.length (List.map c_api_Node (s2) : List (List AV)) + List.length ([[AV.int .i64 (x12.f_Op), AV.int .i64 (x12.f_N), AV.str (x12.f_Name), AV.str (x12.f_In), AV.int .i64 (x12.f_At)]] : List (List AV)) = List.length (s2 ++ ([x12] : List S_api_Node)) := by simp only [List.length_map, List.length_append] <;> rfl
          have hl15_b : List.length s2 + List.length ([[AV.int .i64 (x12.f_Op), AV.int .i64 (x12.f_N), AV.str (x12.f_Name), AV.str (x12.f_In), AV.int .i64 (x12.f_At)]] : List (List AV)) = List.length (s2 ++ ([x12] : List S_api_Node)) := by simp only [List.length_map, List.length_append] <;> rfl
          have hl15_c : List.length s2 + List.length ([x12] : List S_api_Node) = List.length (s2 ++ ([x12] : List S_api_Node)) := by simp only [List.length_map, List.length_append] <;> rfl
          first | simp only [hp14, hl15] | (simp only [List.length_map, take_map_len]; simp only [hp14, hl15_b, hl15_c])
          try simp only [ls]
          conv => lhs; whnf
          exact cq (hcont8 (IntKind.i64.wrap (s1 + 1), (s2 ++ ([x12] : List S_api_Node))) (fun _ => 0) hm)
        · simp only [hc13, ls]
          conv => lhs; whnf
          refine bif_or2 hm ?_ ?_ <;> clear hm <;> intro hc17 hm
          · simp only [hc17, ls]
            conv => lhs; whnf
            refine chk_some2 hm ?_; clear hm; intro hc20 hm
            refine bif_pos (app_row hc20 (by first | rfl | simp only [List.length_map]) (by first | rfl | simp only [List.length_map]) (by first | rfl | simp only [List.length_map, take_map_len]) (by kernel_rfl)) ?_
            try simp only [lt]
            have hp18 : (List.map c_api_Node (s2) : List (List AV)) ++ [[AV.int .i64 (x12.f_Op), AV.int .i64 (x12.f_N), AV.str (x12.f_Name), AV.str (x12.f_In), AV.int .i64 (x12.f_At)]] = List.map c_api_Node (s2 ++ ([x12] : List S_api_Node)) := by first | rfl | (rw [List.map_append]; rfl) | (rw [List.map_append]; done) | (simp only [List.map_append, List.map_cons, List.map_nil, List.nil_append, c_api_Node] <;> rfl)
            have hl19 : List.length (List.map c_api_Node (s2) : List (List AV)) + List.length ([[AV.int .i64 (x12.f_Op), AV.int .i64 (x12.f_N), AV.str (x12.f_Name), AV.str (x12.f_In), AV.int .i64 (x12.f_At)]] : List (List AV)) = List.length (s2 ++ ([x12] : List S_api_Node)) := by simp only [List.length_map, List.length_append] <;> rfl
            have hl19_b : List.length s2 + List.length ([[AV.int .i64 (x12.f_Op), AV.int .i64 (x12.f_N), AV.str (x12.f_Name), AV.str (x12.f_In), AV.int .i64 (x12.f_At)]] : List (List AV)) = List.length (s2 ++ ([x12] : List S_api_Node)) := by simp only [List.length_map, List.length_append] <;> rfl
            have hl19_c : List.length s2 + List.length ([x12] : List S_api_Node) = List.length (s2 ++ ([x12] : List S_api_Node)) := by simp only [List.length_map, List.length_append] <;> rfl
            first | simp only [hp18, hl19] | (simp only [List.length_map, take_map_len]; simp only [hp18, hl19_b, hl19_c])
            try simp only [ls]
            conv => lhs; whnf
            exact cq (hcont8 (IntKind.i64.wrap (s1 + 1), (s2 ++ ([x12] : List S_api_Node))) (fun _ => 0) hm)
          · simp only [hc17, ls]
            conv => lhs; whnf
            refine bif_or2 hm ?_ ?_ <;> clear hm <;> intro hc21 hm
            · simp only [hc21, ls]
              conv => lhs; whnf
              refine chk_some2 hm ?_; clear hm; intro hc24 hm
              refine bif_pos (app_row hc24 (by first | rfl | simp only [List.length_map]) (by first | rfl | simp only [List.length_map]) (by first | rfl | simp only [List.length_map, take_map_len]) (by kernel_rfl)) ?_
              try simp only [lt]
              have hp22 : (List.map c_api_Node (s2) : List (List AV)) ++ [[AV.int .i64 (x12.f_Op), AV.int .i64 (x12.f_N), AV.str (x12.f_Name), AV.str (x12.f_In), AV.int .i64 (x12.f_At)]] = List.map c_api_Node (s2 ++ ([x12] : List S_api_Node)) := by first | rfl | (rw [List.map_append]; rfl) | (rw [List.map_append]; done) | (simp only [List.map_append, List.map_cons, List.map_nil, List.nil_append, c_api_Node] <;> rfl)
              have hl23 : List.length (List.map c_api_Node (s2) : List (List AV)) + List.length ([[AV.int .i64 (x12.f_Op), AV.int .i64 (x12.f_N), AV.str (x12.f_Name), AV.str (x12.f_In), AV.int .i64 (x12.f_At)]] : List (List AV)) = List.length (s2 ++ ([x12] : List S_api_Node)) := by simp only [List.length_map, List.length_append] <;> rfl
              have hl23_b : List.length s2 + List.length ([[AV.int .i64 (x12.f_Op), AV.int .i64 (x12.f_N), AV.str (x12.f_Name), AV.str (x12.f_In), AV.int .i64 (x12.f_At)]] : List (List AV)) = List.length (s2 ++ ([x12] : List S_api_Node)) := by simp only [List.length_map, List.length_append] <;> rfl
              have hl23_c : List.length s2 + List.length ([x12] : List S_api_Node) = List.length (s2 ++ ([x12] : List S_api_Node)) := by simp only [List.length_map, List.length_append] <;> rfl
              first | simp only [hp22, hl23] | (simp only [List.length_map, take_map_len]; simp only [hp22, hl23_b, hl23_c])
              try simp only [ls]
              conv => lhs; whnf
              exact cq (hcont8 (IntKind.i64.wrap (s1 + 1), (s2 ++ ([x12] : List S_api_Node))) (fun _ => 0) hm)
            · simp only [hc21, ls]
              conv => lhs; whnf
              exact cq (hcont8 (IntKind.i64.wrap (s1 + 1), s2) (fun _ => 0) hm)
      · simp only [hc11, ls]
        conv => lhs; whnf
        have hq := Option.some.inj hm; clear hm; subst hq
        exact kq (hr9 (fun _ => 0))
    · cases o10 with
      | ret v =>
        have hq := Option.some.inj hm; clear hm; subst hq
        rfl
      | out t =>
        obtain ⟨x26, rfl⟩ : ∃ x, x = t := ⟨_, rfl⟩
        intro a25
        dsimp only at hm
        conv => lhs; whnf
        have hq := Option.some.inj hm; clear hm; subst hq
        try simp only [ls]
        exact fq (y := some (AV.sl 5 (List.take (List.length (x26)) (List.map c_api_Node (x26))), []))

set_option maxHeartbeats 4000000 in
theorem ok_expr_node (n : Nat) : ∀ (v0_x : S_api_Node) (v1_rest : (List (List S_api_Node))) (r : (List S_api_Node)), m_expr_node n v0_x v1_rest = some r → callN Try.prog HH XT n 50 [AV.agg [AV.int .i64 (v0_x.f_Op), AV.int .i64 (v0_x.f_N), AV.str (v0_x.f_Name), AV.str (v0_x.f_In), AV.int .i64 (v0_x.f_At)], AV.sl 1 (List.map c_sl___api_Node (v1_rest))] [] = some (AV.sl 5 (List.map c_api_Node (r)), []) := by
  cases n with
  | zero => intro v0_x v1_rest r hm; exact absurd hm (by intro h; cases h)
  | succ n =>
    intro v0_x v1_rest r hm
    rw [m_expr_node] at hm
    refine callN_eq' Try.func50 (by rfl) rfl rfl (Nat.le_of_ble_eq_true rfl) ?_
    intro call hc
    conv => lhs; whnf
    refine bind_some2 hm ?_; clear hm; intro o10 ho10 hm
    refine rounds_sim (σ := (Int × (List S_api_Node))) (τ := (List S_api_Node)) (ν := (List S_api_Node)) 0 (fun (s1, s2) a4 => stOf 21 [(5, AV.row 1 (List.length (s2))), (10, AV.sl 1 (List.map c_sl___api_Node (v1_rest))), (11, AV.int .i64 ((((v1_rest).length : Nat) : Int))), (12, AV.int .i64 (s1))]) (fun (s1, s2) a4 => [Ob.var 32 [AV.int .i64 (v0_x.f_Op), AV.int .i64 (v0_x.f_N), AV.str (v0_x.f_Name), AV.str (v0_x.f_In), AV.int .i64 (v0_x.f_At)], Ob.row 32 5 (List.map c_api_Node (s2))]) (fun x17 a16 => stOf 21 [(5, AV.row 1 (List.length (x17)))]) (fun x17 a16 => [Ob.var 32 [AV.int .i64 (v0_x.f_Op), AV.int .i64 (v0_x.f_N), AV.str (v0_x.f_Name), AV.str (v0_x.f_In), AV.int .i64 (v0_x.f_At)], Ob.row 32 5 (List.map c_api_Node (x17))]) (fun v => (AV.sl 5 (List.map c_api_Node (v)), [])) (fun k s => expr_node_L0 n v1_rest k ((s).1) ((s).2)) (fun s => rfl) o10 ?_ n (0, ([v0_x] : List S_api_Node)) (fun _ => 0) _ _ ho10 ?_ (by first | rfl | (simp only [ls, List.map_append, List.map_cons, List.map_nil, List.append_nil, List.length_set, length_copyL] <;> rfl)) (by first | rfl | (simp only [ls, List.map_append, List.map_cons, List.map_nil, List.append_nil, List.length_set, length_copyL] <;> rfl))
    · intro k3 ss a4 K5 cont6 hK7 hcont8 hm hr9
      obtain ⟨s1, s2⟩ := ss
      replace hm : expr_node_L0 n v1_rest (k3 + 1) s1 s2 = some o10 := hm
      rw [expr_node_L0] at hm
      conv => lhs; whnf
      refine bif_or2 hm ?_ ?_ <;> clear hm <;> intro hc11 hm
      · simp only [hc11, ls]
        conv => lhs; whnf
        refine bind_some2 hm ?_; clear hm; intro x12 hx12 hm
        refine bif_pos (by first | exact idx_in hx12 | exact idx_in' hx12) ?_
        simp only [idx_nth (f := c_sl___api_Node) hx12, ls]
        conv => lhs; whnf
        refine chk_some2 hm ?_; clear hm; intro hc15 hm
        refine bif_pos (app_row hc15 (by first | rfl | simp only [List.length_map]) (by first | rfl | simp only [List.length_map]) (by first | rfl | simp only [List.length_map, take_map_len]) (by kernel_rfl)) ?_
        try simp only [lt]
        have hp13 : (List.map c_api_Node (s2) : List (List AV)) ++ List.map c_api_Node (x12) = List.map c_api_Node (s2 ++ x12) := by first | rfl | (rw [List.map_append]; rfl) | (rw [List.map_append]; done) | (simp only [List.map_append, List.map_cons, List.map_nil, List.nil_append, c_api_Node] <;> rfl)
        have hl14 : List.length (List.map c_api_Node (s2) : List (List AV)) + List.length (List.map c_api_Node (x12) : List (List AV)) = List.length (s2 ++ x12) := by simp only [List.length_map, List.length_append] <;> rfl
        have hl14_b : List.length s2 + List.length (List.map c_api_Node (x12) : List (List AV)) = List.length (s2 ++ x12) := by simp only [List.length_map, List.length_append] <;> rfl
        have hl14_c : List.length s2 + List.length x12 = List.length (s2 ++ x12) := by simp only [List.length_map, List.length_append] <;> rfl
        first | simp only [hp13, hl14] | (simp only [List.length_map, take_map_len]; simp only [hp13, hl14_b, hl14_c])
        try simp only [ls]
        conv => lhs; whnf
        exact cq (hcont8 (IntKind.i64.wrap (s1 + 1), (s2 ++ x12)) (fun _ => 0) hm)
      · simp only [hc11, ls]
        conv => lhs; whnf
        have hq := Option.some.inj hm; clear hm; subst hq
        exact kq (hr9 (fun _ => 0))
    · cases o10 with
      | ret v =>
        have hq := Option.some.inj hm; clear hm; subst hq
        rfl
      | out t =>
        obtain ⟨x17, rfl⟩ : ∃ x, x = t := ⟨_, rfl⟩
        intro a16
        dsimp only at hm
        conv => lhs; whnf
        have hq := Option.some.inj hm; clear hm; subst hq
        try simp only [ls]
        exact fq (y := some (AV.sl 5 (List.take (List.length (x17)) (List.map c_api_Node (x17))), []))

set_option maxHeartbeats 4000000 in
theorem ok_expr_parser_is (n : Nat) : ∀ (v1_s : (List UInt8)) (p_l : (List S_api_Token)) (p_i : Int) (p_in : Int) (p_e : Int) (p_at : Int) (r : Bool), m_expr_parser_is n v1_s p_l p_i p_in p_e p_at = some r → callN Try.prog HH XT n 49 [AV.ptr 0 0, AV.str (v1_s)] [Ob.var 48 [AV.sl 4 (List.map c_api_Token (p_l)), AV.int .i64 (p_i), AV.int .i64 (p_in), AV.int .i64 (p_e), AV.int .i64 (p_at)]] = some (AV.bool (r), [Ob.var 48 [AV.sl 4 (List.map c_api_Token (p_l)), AV.int .i64 (p_i), AV.int .i64 (p_in), AV.int .i64 (p_e), AV.int .i64 (p_at)]]) := by
  cases n with
  | zero => intro v1_s p_l p_i p_in p_e p_at r hm; exact absurd hm (by intro h; cases h)
  | succ n =>
    intro v1_s p_l p_i p_in p_e p_at r hm
    rw [m_expr_parser_is] at hm
    refine callN_eq' Try.func49 (by rfl) rfl rfl (Nat.le_of_ble_eq_true rfl) ?_
    intro call hc
    conv => lhs; whnf
    refine bif_or2 hm ?_ ?_ <;> clear hm <;> intro hc1 hm
    · simp only [hc1, ls]
      conv => lhs; whnf
      refine bind_some2 hm ?_; clear hm; intro x2 hx2 hm
      refine bif_pos (by first | exact idx_in hx2 | exact idx_in' hx2) ?_
      simp only [idx_nth (f := c_api_Token) hx2, ls]
      conv => lhs; whnf
      refine bif_or2 hm ?_ ?_ <;> clear hm <;> intro hc3 hm
      · simp only [hc3, ls]
        conv => lhs; whnf
        refine bind_some2 hm ?_; clear hm; intro x4 hx4 hm
        refine bif_pos (by first | exact idx_in hx4 | exact idx_in' hx4) ?_
        simp only [idx_nth (f := c_api_Token) hx4, ls]
        conv => lhs; whnf
        have hq := Option.some.inj hm; clear hm; subst hq
        try simp only [ls]
        exact fq (y := some (AV.bool ((x4.f_Text == v1_s)), [Ob.var 48 [AV.sl 4 (List.map c_api_Token (p_l)), AV.int .i64 (p_i), AV.int .i64 (p_in), AV.int .i64 (p_e), AV.int .i64 (p_at)]]))
      · simp only [hc3, ls]
        conv => lhs; whnf
        have hq := Option.some.inj hm; clear hm; subst hq
        try simp only [ls]
        exact fq (y := some (AV.bool (false), [Ob.var 48 [AV.sl 4 (List.map c_api_Token (p_l)), AV.int .i64 (p_i), AV.int .i64 (p_in), AV.int .i64 (p_e), AV.int .i64 (p_at)]]))
    · simp only [hc1, ls]
      conv => lhs; whnf
      have hq := Option.some.inj hm; clear hm; subst hq
      try simp only [ls]
      exact fq (y := some (AV.bool (false), [Ob.var 48 [AV.sl 4 (List.map c_api_Token (p_l)), AV.int .i64 (p_i), AV.int .i64 (p_in), AV.int .i64 (p_e), AV.int .i64 (p_at)]]))

set_option maxHeartbeats 4000000 in
theorem ok_expr_parser_fail (n : Nat) : ∀ (v1_e : Int) (p_l : (List S_api_Token)) (p_i : Int) (p_in : Int) (p_e : Int) (p_at : Int) (r : ((List S_api_Node) × Int × Int)), m_expr_parser_fail n v1_e p_l p_i p_in p_e p_at = some r → callN Try.prog HH XT n 57 [AV.ptr 0 0, AV.int .i64 (v1_e)] [Ob.var 48 [AV.sl 4 (List.map c_api_Token (p_l)), AV.int .i64 (p_i), AV.int .i64 (p_in), AV.int .i64 (p_e), AV.int .i64 (p_at)]] = some (AV.sl 5 (List.map c_api_Node ((r).1)), [Ob.var 48 [AV.sl 4 (List.map c_api_Token (p_l)), AV.int .i64 (p_i), AV.int .i64 (p_in), AV.int .i64 ((r).2.1), AV.int .i64 ((r).2.2)]]) := by
  cases n with
  | zero => intro v1_e p_l p_i p_in p_e p_at r hm; exact absurd hm (by intro h; cases h)
  | succ n =>
    intro v1_e p_l p_i p_in p_e p_at r hm
    rw [m_expr_parser_fail] at hm
    refine callN_eq' Try.func57 (by rfl) rfl rfl (Nat.le_of_ble_eq_true rfl) ?_
    intro call hc
    conv => lhs; whnf
    refine bif_or2 hm ?_ ?_ <;> clear hm <;> intro hc1 hm
    · simp only [hc1, ls]
      conv => lhs; whnf
      have hq := Option.some.inj hm; clear hm; subst hq
      try simp only [ls]
      exact fq (y := some (AV.sl 5 [], [Ob.var 48 [AV.sl 4 (List.map c_api_Token (p_l)), AV.int .i64 (p_i), AV.int .i64 (p_in), AV.int .i64 (p_e), AV.int .i64 (p_at)]]))
    · simp only [hc1, ls]
      conv => lhs; whnf
      refine bif_or2 hm ?_ ?_ <;> clear hm <;> intro hc2 hm
      · simp only [hc2, ls]
        conv => lhs; whnf
        refine bind_some2 hm ?_; clear hm; intro x3 hx3 hm
        refine bif_pos (by first | exact idx_in hx3 | exact idx_in' hx3) ?_
        simp only [idx_nth (f := c_api_Token) hx3, ls]
        conv => lhs; whnf
        have hq := Option.some.inj hm; clear hm; subst hq
        try simp only [ls]
        exact fq (y := some (AV.sl 5 [], [Ob.var 48 [AV.sl 4 (List.map c_api_Token (p_l)), AV.int .i64 (p_i), AV.int .i64 (p_in), AV.int .i64 (v1_e), AV.int .i64 (x3.f_At)]]))
      · simp only [hc2, ls]
        conv => lhs; whnf
        refine bif_or2 hm ?_ ?_ <;> clear hm <;> intro hc4 hm
        · simp only [hc4, ls]
          conv => lhs; whnf
          refine bif_or2 hm ?_ ?_ <;> clear hm <;> intro hc5 hm
          · simp only [hc5, ls]
            conv => lhs; whnf
            refine bind_some2 hm ?_; clear hm; intro x6 hx6 hm
            refine bif_pos (by first | exact idx_in hx6 | exact idx_in' hx6) ?_
            simp only [idx_nth (f := c_api_Token) hx6, ls]
            conv => lhs; whnf
            refine bind_some2 hm ?_; clear hm; intro x7 hx7 hm
            refine bif_pos (by first | exact idx_in hx7 | exact idx_in' hx7) ?_
            simp only [idx_nth (f := c_api_Token) hx7, ls]
            conv => lhs; whnf
            have hq := Option.some.inj hm; clear hm; subst hq
            try simp only [ls]
            exact fq (y := some (AV.sl 5 [], [Ob.var 48 [AV.sl 4 (List.map c_api_Token (p_l)), AV.int .i64 (p_i), AV.int .i64 (p_in), AV.int .i64 (6), AV.int .i64 (IntKind.i64.wrap (x6.f_At + (((x7.f_Text).length : Nat) : Int)))]]))
          · simp only [hc5, ls]
            conv => lhs; whnf
            have hq := Option.some.inj hm; clear hm; subst hq
            try simp only [ls]
            exact fq (y := some (AV.sl 5 [], [Ob.var 48 [AV.sl 4 (List.map c_api_Token (p_l)), AV.int .i64 (p_i), AV.int .i64 (p_in), AV.int .i64 (6), AV.int .i64 (p_at)]]))
        · simp only [hc4, ls]
          conv => lhs; whnf
          refine bif_or2 hm ?_ ?_ <;> clear hm <;> intro hc8 hm
          · simp only [hc8, ls]
            conv => lhs; whnf
            refine bind_some2 hm ?_; clear hm; intro x9 hx9 hm
            refine bif_pos (by first | exact idx_in hx9 | exact idx_in' hx9) ?_
            simp only [idx_nth (f := c_api_Token) hx9, ls]
            conv => lhs; whnf
            refine bind_some2 hm ?_; clear hm; intro x10 hx10 hm
            refine bif_pos (by first | exact idx_in hx10 | exact idx_in' hx10) ?_
            simp only [idx_nth (f := c_api_Token) hx10, ls]
            conv => lhs; whnf
            have hq := Option.some.inj hm; clear hm; subst hq
            try simp only [ls]
            exact fq (y := some (AV.sl 5 [], [Ob.var 48 [AV.sl 4 (List.map c_api_Token (p_l)), AV.int .i64 (p_i), AV.int .i64 (p_in), AV.int .i64 (v1_e), AV.int .i64 (IntKind.i64.wrap (x9.f_At + (((x10.f_Text).length : Nat) : Int)))]]))
          · simp only [hc8, ls]
            conv => lhs; whnf
            have hq := Option.some.inj hm; clear hm; subst hq
            try simp only [ls]
            exact fq (y := some (AV.sl 5 [], [Ob.var 48 [AV.sl 4 (List.map c_api_Token (p_l)), AV.int .i64 (p_i), AV.int .i64 (p_in), AV.int .i64 (v1_e), AV.int .i64 (p_at)]]))

set_option maxHeartbeats 4000000 in
theorem ok_expr_parser_name (n : Nat) : ∀ (p_l : (List S_api_Token)) (p_i : Int) (p_in : Int) (p_e : Int) (p_at : Int) (r : ((List UInt8) × Int × Bool × Int)), m_expr_parser_name n p_l p_i p_in p_e p_at = some r → callN Try.prog HH XT n 58 [AV.ptr 0 0] [Ob.var 48 [AV.sl 4 (List.map c_api_Token (p_l)), AV.int .i64 (p_i), AV.int .i64 (p_in), AV.int .i64 (p_e), AV.int .i64 (p_at)]] = some (AV.tup [AV.str ((r).1), AV.int .i64 ((r).2.1), AV.bool ((r).2.2.1)], [Ob.var 48 [AV.sl 4 (List.map c_api_Token (p_l)), AV.int .i64 ((r).2.2.2), AV.int .i64 (p_in), AV.int .i64 (p_e), AV.int .i64 (p_at)]]) := by
  cases n with
  | zero => intro p_l p_i p_in p_e p_at r hm; exact absurd hm (by intro h; cases h)
  | succ n =>
    intro p_l p_i p_in p_e p_at r hm
    rw [m_expr_parser_name] at hm
    refine callN_eq' Try.func58 (by rfl) rfl rfl (Nat.le_of_ble_eq_true rfl) ?_
    intro call hc
    conv => lhs; whnf
    refine bif_or2 hm ?_ ?_ <;> clear hm <;> intro hc1 hm
    · simp only [hc1, ls]
      conv => lhs; whnf
      have hq := Option.some.inj hm; clear hm; subst hq
      try simp only [ls]
      exact fq (y := some (AV.tup [AV.str (([] : List UInt8)), AV.int .i64 (0), AV.bool (false)], [Ob.var 48 [AV.sl 4 (List.map c_api_Token (p_l)), AV.int .i64 (p_i), AV.int .i64 (p_in), AV.int .i64 (p_e), AV.int .i64 (p_at)]]))
    · simp only [hc1, ls]
      conv => lhs; whnf
      refine bind_some2 hm ?_; clear hm; intro x2 hx2 hm
      refine bif_pos (by first | exact idx_in hx2 | exact idx_in' hx2) ?_
      simp only [idx_nth (f := c_api_Token) hx2, ls]
      conv => lhs; whnf
      refine bif_or2 hm ?_ ?_ <;> clear hm <;> intro hc3 hm
      · simp only [hc3, ls]
        conv => lhs; whnf
        have hq := Option.some.inj hm; clear hm; subst hq
        try simp only [ls]
        exact fq (y := some (AV.tup [AV.str (([] : List UInt8)), AV.int .i64 (0), AV.bool (false)], [Ob.var 48 [AV.sl 4 (List.map c_api_Token (p_l)), AV.int .i64 (p_i), AV.int .i64 (p_in), AV.int .i64 (p_e), AV.int .i64 (p_at)]]))
      · simp only [hc3, ls]
        conv => lhs; whnf
        refine bind_some2 hm ?_; clear hm; intro x4 hx4 hm
        refine bif_pos (by first | exact idx_in hx4 | exact idx_in' hx4) ?_
        simp only [idx_nth (f := c_api_Token) hx4, ls]
        conv => lhs; whnf
        refine bind_some2 hm ?_; clear hm; intro y5 hy5 hm
        have hk6 : call false 31 [AV.str (x4.f_Text)] [] = some (AV.bool (y5), []) := (hc _ _ _).trans (ok_scan_Name n x4.f_Text y5 hy5)
        try simp only [List.drop_zero, ls]
        first | simp only [hk6] | rewrite [hk6]
        try simp only [ls]
        conv => lhs; whnf
        refine bif_or2 hm ?_ ?_ <;> clear hm <;> intro hc7 hm
        · simp only [hc7, ls]
          conv => lhs; whnf
          refine bind_some2 hm ?_; clear hm; intro x8 hx8 hm
          refine bif_pos (by first | exact idx_in hx8 | exact idx_in' hx8) ?_
          simp only [idx_nth (f := c_api_Token) hx8, ls]
          conv => lhs; whnf
          have hq := Option.some.inj hm; clear hm; subst hq
          try simp only [ls]
          exact fq (y := some (AV.tup [AV.str (x8.f_Text), AV.int .i64 (x8.f_At), AV.bool (true)], [Ob.var 48 [AV.sl 4 (List.map c_api_Token (p_l)), AV.int .i64 (IntKind.i64.wrap (p_i + 1)), AV.int .i64 (p_in), AV.int .i64 (p_e), AV.int .i64 (p_at)]]))
        · simp only [hc7, ls]
          conv => lhs; whnf
          have hq := Option.some.inj hm; clear hm; subst hq
          try simp only [ls]
          exact fq (y := some (AV.tup [AV.str (([] : List UInt8)), AV.int .i64 (0), AV.bool (false)], [Ob.var 48 [AV.sl 4 (List.map c_api_Token (p_l)), AV.int .i64 (p_i), AV.int .i64 (p_in), AV.int .i64 (p_e), AV.int .i64 (p_at)]]))
end Go.Proofs.Ytjobghbdfannfaa
end

section
namespace Go.Proofs.Ytjobghbdfannfaa
set_option linter.unusedVariables false
set_option linter.unusedSimpArgs false
set_option maxRecDepth 100000

set_option maxHeartbeats 4000000 in
theorem ok_expr_sign (n : Nat) : ∀ (v0_op : Int) (r : (List UInt8)), m_expr_sign n v0_op = some r → callN Try.prog HH XT n 34 [AV.int .i64 (v0_op)] [] = some (AV.str (r), []) := by
  cases n with
  | zero => intro v0_op r hm; exact absurd hm (by intro h; cases h)
  | succ n =>
    intro v0_op r hm
    rw [m_expr_sign] at hm
    refine callN_eq' Try.func34 (by rfl) rfl rfl (Nat.le_of_ble_eq_true rfl) ?_
    intro call hc
    conv => lhs; whnf
    refine bif_or2 hm ?_ ?_ <;> clear hm <;> intro hc1 hm
    · simp only [hc1, ls]
      conv => lhs; whnf
      have hq := Option.some.inj hm; clear hm; subst hq
      try simp only [ls]
      exact fq (y := some (AV.str (([124, 124] : List UInt8)), []))
    · simp only [hc1, ls]
      conv => lhs; whnf
      refine bif_or2 hm ?_ ?_ <;> clear hm <;> intro hc2 hm
      · simp only [hc2, ls]
        conv => lhs; whnf
        have hq := Option.some.inj hm; clear hm; subst hq
        try simp only [ls]
        exact fq (y := some (AV.str (([38, 38] : List UInt8)), []))
      · simp only [hc2, ls]
        conv => lhs; whnf
        refine bif_or2 hm ?_ ?_ <;> clear hm <;> intro hc3 hm
        · simp only [hc3, ls]
          conv => lhs; whnf
          have hq := Option.some.inj hm; clear hm; subst hq
          try simp only [ls]
          exact fq (y := some (AV.str (([60, 61] : List UInt8)), []))
        · simp only [hc3, ls]
          conv => lhs; whnf
          refine bif_or2 hm ?_ ?_ <;> clear hm <;> intro hc4 hm
          · simp only [hc4, ls]
            conv => lhs; whnf
            have hq := Option.some.inj hm; clear hm; subst hq
            try simp only [ls]
            exact fq (y := some (AV.str (([60] : List UInt8)), []))
          · simp only [hc4, ls]
            conv => lhs; whnf
            refine bif_or2 hm ?_ ?_ <;> clear hm <;> intro hc5 hm
            · simp only [hc5, ls]
              conv => lhs; whnf
              have hq := Option.some.inj hm; clear hm; subst hq
              try simp only [ls]
              exact fq (y := some (AV.str (([33, 61] : List UInt8)), []))
            · simp only [hc5, ls]
              conv => lhs; whnf
              refine bif_or2 hm ?_ ?_ <;> clear hm <;> intro hc6 hm
              · simp only [hc6, ls]
                conv => lhs; whnf
                have hq := Option.some.inj hm; clear hm; subst hq
                try simp only [ls]
                exact fq (y := some (AV.str (([61, 61] : List UInt8)), []))
              · simp only [hc6, ls]
                conv => lhs; whnf
                refine bif_or2 hm ?_ ?_ <;> clear hm <;> intro hc7 hm
                · simp only [hc7, ls]
                  conv => lhs; whnf
                  have hq := Option.some.inj hm; clear hm; subst hq
                  try simp only [ls]
                  exact fq (y := some (AV.str (([42] : List UInt8)), []))
                · simp only [hc7, ls]
                  conv => lhs; whnf
                  refine bif_or2 hm ?_ ?_ <;> clear hm <;> intro hc8 hm
                  · simp only [hc8, ls]
                    conv => lhs; whnf
                    have hq := Option.some.inj hm; clear hm; subst hq
                    try simp only [ls]
                    exact fq (y := some (AV.str (([45] : List UInt8)), []))
                  · simp only [hc8, ls]
                    conv => lhs; whnf
                    refine bif_or2 hm ?_ ?_ <;> clear hm <;> intro hc9 hm
                    · simp only [hc9, ls]
                      conv => lhs; whnf
                      have hq := Option.some.inj hm; clear hm; subst hq
                      try simp only [ls]
                      exact fq (y := some (AV.str (([43] : List UInt8)), []))
                    · simp only [hc9, ls]
                      conv => lhs; whnf
                      refine bif_or2 hm ?_ ?_ <;> clear hm <;> intro hc10 hm
                      · simp only [hc10, ls]
                        conv => lhs; whnf
                        have hq := Option.some.inj hm; clear hm; subst hq
                        try simp only [ls]
                        exact fq (y := some (AV.str (([33] : List UInt8)), []))
                      · simp only [hc10, ls]
                        conv => lhs; whnf
                        refine bif_or2 hm ?_ ?_ <;> clear hm <;> intro hc11 hm
                        · simp only [hc11, ls]
                          conv => lhs; whnf
                          have hq := Option.some.inj hm; clear hm; subst hq
                          try simp only [ls]
                          exact fq (y := some (AV.str (([] : List UInt8)), []))
                        · simp only [hc11, ls]
                          conv => lhs; whnf
                          refine bif_or2 hm ?_ ?_ <;> clear hm <;> intro hc12 hm
                          · simp only [hc12, ls]
                            conv => lhs; whnf
                            have hq := Option.some.inj hm; clear hm; subst hq
                            try simp only [ls]
                            exact fq (y := some (AV.str (([] : List UInt8)), []))
                          · simp only [hc12, ls]
                            conv => lhs; whnf
                            refine bif_or2 hm ?_ ?_ <;> clear hm <;> intro hc13 hm
                            · simp only [hc13, ls]
                              conv => lhs; whnf
                              have hq := Option.some.inj hm; clear hm; subst hq
                              try simp only [ls]
                              exact fq (y := some (AV.str (([] : List UInt8)), []))
                            · simp only [hc13, ls]
                              conv => lhs; whnf
                              refine bif_or2 hm ?_ ?_ <;> clear hm <;> intro hc14 hm
                              · simp only [hc14, ls]
                                conv => lhs; whnf
                                have hq := Option.some.inj hm; clear hm; subst hq
                                try simp only [ls]
                                exact fq (y := some (AV.str (([] : List UInt8)), []))
                              · simp only [hc14, ls]
                                conv => lhs; whnf
                                refine bif_or2 hm ?_ ?_ <;> clear hm <;> intro hc15 hm
                                · simp only [hc15, ls]
                                  conv => lhs; whnf
                                  have hq := Option.some.inj hm; clear hm; subst hq
                                  try simp only [ls]
                                  exact fq (y := some (AV.str (([] : List UInt8)), []))
                                · cases hm
end Go.Proofs.Ytjobghbdfannfaa
end

section
namespace Go.Proofs.Ytjobghbdfannfaa
set_option linter.unusedVariables false
set_option linter.unusedSimpArgs false
set_option maxRecDepth 100000

def OK_expr_parser_any (n : Nat) : Prop := ∀ (p_l : (List S_api_Token)) (p_i : Int) (p_in : Int) (p_e : Int) (p_at : Int) (r : ((List S_api_Node) × Int × Int × Int × Int)), m_expr_parser_any n p_l p_i p_in p_e p_at = some r → callN Try.prog HH XT n 30 [AV.ptr 0 0] [Ob.var 48 [AV.sl 4 (List.map c_api_Token (p_l)), AV.int .i64 (p_i), AV.int .i64 (p_in), AV.int .i64 (p_e), AV.int .i64 (p_at)]] = some (AV.sl 5 (List.map c_api_Node ((r).1)), [Ob.var 48 [AV.sl 4 (List.map c_api_Token (p_l)), AV.int .i64 ((r).2.1), AV.int .i64 ((r).2.2.1), AV.int .i64 ((r).2.2.2.1), AV.int .i64 ((r).2.2.2.2)]])
def OK_expr_parser_both (n : Nat) : Prop := ∀ (p_l : (List S_api_Token)) (p_i : Int) (p_in : Int) (p_e : Int) (p_at : Int) (r : ((List S_api_Node) × Int × Int × Int × Int)), m_expr_parser_both n p_l p_i p_in p_e p_at = some r → callN Try.prog HH XT n 41 [AV.ptr 0 0] [Ob.var 48 [AV.sl 4 (List.map c_api_Token (p_l)), AV.int .i64 (p_i), AV.int .i64 (p_in), AV.int .i64 (p_e), AV.int .i64 (p_at)]] = some (AV.sl 5 (List.map c_api_Node ((r).1)), [Ob.var 48 [AV.sl 4 (List.map c_api_Token (p_l)), AV.int .i64 ((r).2.1), AV.int .i64 ((r).2.2.1), AV.int .i64 ((r).2.2.2.1), AV.int .i64 ((r).2.2.2.2)]])
def OK_expr_parser_compared (n : Nat) : Prop := ∀ (p_l : (List S_api_Token)) (p_i : Int) (p_in : Int) (p_e : Int) (p_at : Int) (r : ((List S_api_Node) × Int × Int × Int × Int)), m_expr_parser_compared n p_l p_i p_in p_e p_at = some r → callN Try.prog HH XT n 51 [AV.ptr 0 0] [Ob.var 48 [AV.sl 4 (List.map c_api_Token (p_l)), AV.int .i64 (p_i), AV.int .i64 (p_in), AV.int .i64 (p_e), AV.int .i64 (p_at)]] = some (AV.sl 5 (List.map c_api_Node ((r).1)), [Ob.var 48 [AV.sl 4 (List.map c_api_Token (p_l)), AV.int .i64 ((r).2.1), AV.int .i64 ((r).2.2.1), AV.int .i64 ((r).2.2.2.1), AV.int .i64 ((r).2.2.2.2)]])
def OK_expr_parser_inner (n : Nat) : Prop := ∀ (p_l : (List S_api_Token)) (p_i : Int) (p_in : Int) (p_e : Int) (p_at : Int) (r : ((List S_api_Node) × Int × Int × Int × Int)), m_expr_parser_inner n p_l p_i p_in p_e p_at = some r → callN Try.prog HH XT n 56 [AV.ptr 0 0, AV.func 55 [] []] [Ob.var 48 [AV.sl 4 (List.map c_api_Token (p_l)), AV.int .i64 (p_i), AV.int .i64 (p_in), AV.int .i64 (p_e), AV.int .i64 (p_at)]] = some (AV.sl 5 (List.map c_api_Node ((r).1)), [Ob.var 48 [AV.sl 4 (List.map c_api_Token (p_l)), AV.int .i64 ((r).2.1), AV.int .i64 ((r).2.2.1), AV.int .i64 ((r).2.2.2.1), AV.int .i64 ((r).2.2.2.2)]])
def OK_expr_parser_inner_1 (n : Nat) : Prop := ∀ (p_l : (List S_api_Token)) (p_i : Int) (p_in : Int) (p_e : Int) (p_at : Int) (r : ((List S_api_Node) × Int × Int × Int × Int)), m_expr_parser_inner_1 n p_l p_i p_in p_e p_at = some r → callN Try.prog HH XT n 56 [AV.ptr 0 0, AV.func 30 [] []] [Ob.var 48 [AV.sl 4 (List.map c_api_Token (p_l)), AV.int .i64 (p_i), AV.int .i64 (p_in), AV.int .i64 (p_e), AV.int .i64 (p_at)]] = some (AV.sl 5 (List.map c_api_Node ((r).1)), [Ob.var 48 [AV.sl 4 (List.map c_api_Token (p_l)), AV.int .i64 ((r).2.1), AV.int .i64 ((r).2.2.1), AV.int .i64 ((r).2.2.2.1), AV.int .i64 ((r).2.2.2.2)]])
def OK_expr_parser_product (n : Nat) : Prop := ∀ (p_l : (List S_api_Token)) (p_i : Int) (p_in : Int) (p_e : Int) (p_at : Int) (r : ((List S_api_Node) × Int × Int × Int × Int)), m_expr_parser_product n p_l p_i p_in p_e p_at = some r → callN Try.prog HH XT n 54 [AV.ptr 0 0] [Ob.var 48 [AV.sl 4 (List.map c_api_Token (p_l)), AV.int .i64 (p_i), AV.int .i64 (p_in), AV.int .i64 (p_e), AV.int .i64 (p_at)]] = some (AV.sl 5 (List.map c_api_Node ((r).1)), [Ob.var 48 [AV.sl 4 (List.map c_api_Token (p_l)), AV.int .i64 ((r).2.1), AV.int .i64 ((r).2.2.1), AV.int .i64 ((r).2.2.2.1), AV.int .i64 ((r).2.2.2.2)]])
def OK_expr_parser_row (n : Nat) : Prop := ∀ (v2_once : Bool) (v3_ops : (List Int)) (p_l : (List S_api_Token)) (p_i : Int) (p_in : Int) (p_e : Int) (p_at : Int) (r : ((List S_api_Node) × Int × Int × Int × Int)), m_expr_parser_row n v2_once v3_ops p_l p_i p_in p_e p_at = some r → callN Try.prog HH XT n 40 [AV.ptr 0 0, AV.func 41 [] [], AV.bool (v2_once), AV.sl 1 (List.map encI (v3_ops))] [Ob.var 48 [AV.sl 4 (List.map c_api_Token (p_l)), AV.int .i64 (p_i), AV.int .i64 (p_in), AV.int .i64 (p_e), AV.int .i64 (p_at)]] = some (AV.sl 5 (List.map c_api_Node ((r).1)), [Ob.var 48 [AV.sl 4 (List.map c_api_Token (p_l)), AV.int .i64 ((r).2.1), AV.int .i64 ((r).2.2.1), AV.int .i64 ((r).2.2.2.1), AV.int .i64 ((r).2.2.2.2)]])
def OK_expr_parser_row_1 (n : Nat) : Prop := ∀ (v2_once : Bool) (v3_ops : (List Int)) (p_l : (List S_api_Token)) (p_i : Int) (p_in : Int) (p_e : Int) (p_at : Int) (r : ((List S_api_Node) × Int × Int × Int × Int)), m_expr_parser_row_1 n v2_once v3_ops p_l p_i p_in p_e p_at = some r → callN Try.prog HH XT n 40 [AV.ptr 0 0, AV.func 51 [] [], AV.bool (v2_once), AV.sl 1 (List.map encI (v3_ops))] [Ob.var 48 [AV.sl 4 (List.map c_api_Token (p_l)), AV.int .i64 (p_i), AV.int .i64 (p_in), AV.int .i64 (p_e), AV.int .i64 (p_at)]] = some (AV.sl 5 (List.map c_api_Node ((r).1)), [Ob.var 48 [AV.sl 4 (List.map c_api_Token (p_l)), AV.int .i64 ((r).2.1), AV.int .i64 ((r).2.2.1), AV.int .i64 ((r).2.2.2.1), AV.int .i64 ((r).2.2.2.2)]])
def OK_expr_parser_row_2 (n : Nat) : Prop := ∀ (v2_once : Bool) (v3_ops : (List Int)) (p_l : (List S_api_Token)) (p_i : Int) (p_in : Int) (p_e : Int) (p_at : Int) (r : ((List S_api_Node) × Int × Int × Int × Int)), m_expr_parser_row_2 n v2_once v3_ops p_l p_i p_in p_e p_at = some r → callN Try.prog HH XT n 40 [AV.ptr 0 0, AV.func 53 [] [], AV.bool (v2_once), AV.sl 1 (List.map encI (v3_ops))] [Ob.var 48 [AV.sl 4 (List.map c_api_Token (p_l)), AV.int .i64 (p_i), AV.int .i64 (p_in), AV.int .i64 (p_e), AV.int .i64 (p_at)]] = some (AV.sl 5 (List.map c_api_Node ((r).1)), [Ob.var 48 [AV.sl 4 (List.map c_api_Token (p_l)), AV.int .i64 ((r).2.1), AV.int .i64 ((r).2.2.1), AV.int .i64 ((r).2.2.2.1), AV.int .i64 ((r).2.2.2.2)]])
def OK_expr_parser_row_3 (n : Nat) : Prop := ∀ (v2_once : Bool) (v3_ops : (List Int)) (p_l : (List S_api_Token)) (p_i : Int) (p_in : Int) (p_e : Int) (p_at : Int) (r : ((List S_api_Node) × Int × Int × Int × Int)), m_expr_parser_row_3 n v2_once v3_ops p_l p_i p_in p_e p_at = some r → callN Try.prog HH XT n 40 [AV.ptr 0 0, AV.func 54 [] [], AV.bool (v2_once), AV.sl 1 (List.map encI (v3_ops))] [Ob.var 48 [AV.sl 4 (List.map c_api_Token (p_l)), AV.int .i64 (p_i), AV.int .i64 (p_in), AV.int .i64 (p_e), AV.int .i64 (p_at)]] = some (AV.sl 5 (List.map c_api_Node ((r).1)), [Ob.var 48 [AV.sl 4 (List.map c_api_Token (p_l)), AV.int .i64 ((r).2.1), AV.int .i64 ((r).2.2.1), AV.int .i64 ((r).2.2.2.1), AV.int .i64 ((r).2.2.2.2)]])
def OK_expr_parser_row_4 (n : Nat) : Prop := ∀ (v2_once : Bool) (v3_ops : (List Int)) (p_l : (List S_api_Token)) (p_i : Int) (p_in : Int) (p_e : Int) (p_at : Int) (r : ((List S_api_Node) × Int × Int × Int × Int)), m_expr_parser_row_4 n v2_once v3_ops p_l p_i p_in p_e p_at = some r → callN Try.prog HH XT n 40 [AV.ptr 0 0, AV.func 55 [] [], AV.bool (v2_once), AV.sl 1 (List.map encI (v3_ops))] [Ob.var 48 [AV.sl 4 (List.map c_api_Token (p_l)), AV.int .i64 (p_i), AV.int .i64 (p_in), AV.int .i64 (p_e), AV.int .i64 (p_at)]] = some (AV.sl 5 (List.map c_api_Node ((r).1)), [Ob.var 48 [AV.sl 4 (List.map c_api_Token (p_l)), AV.int .i64 ((r).2.1), AV.int .i64 ((r).2.2.1), AV.int .i64 ((r).2.2.2.1), AV.int .i64 ((r).2.2.2.2)]])
def OK_expr_parser_single (n : Nat) : Prop := ∀ (p_l : (List S_api_Token)) (p_i : Int) (p_in : Int) (p_e : Int) (p_at : Int) (r : ((List S_api_Node) × Int × Int × Int × Int)), m_expr_parser_single n p_l p_i p_in p_e p_at = some r → callN Try.prog HH XT n 55 [AV.ptr 0 0] [Ob.var 48 [AV.sl 4 (List.map c_api_Token (p_l)), AV.int .i64 (p_i), AV.int .i64 (p_in), AV.int .i64 (p_e), AV.int .i64 (p_at)]] = some (AV.sl 5 (List.map c_api_Node ((r).1)), [Ob.var 48 [AV.sl 4 (List.map c_api_Token (p_l)), AV.int .i64 ((r).2.1), AV.int .i64 ((r).2.2.1), AV.int .i64 ((r).2.2.2.1), AV.int .i64 ((r).2.2.2.2)]])
def OK_expr_parser_sum (n : Nat) : Prop := ∀ (p_l : (List S_api_Token)) (p_i : Int) (p_in : Int) (p_e : Int) (p_at : Int) (r : ((List S_api_Node) × Int × Int × Int × Int)), m_expr_parser_sum n p_l p_i p_in p_e p_at = some r → callN Try.prog HH XT n 53 [AV.ptr 0 0] [Ob.var 48 [AV.sl 4 (List.map c_api_Token (p_l)), AV.int .i64 (p_i), AV.int .i64 (p_in), AV.int .i64 (p_e), AV.int .i64 (p_at)]] = some (AV.sl 5 (List.map c_api_Node ((r).1)), [Ob.var 48 [AV.sl 4 (List.map c_api_Token (p_l)), AV.int .i64 ((r).2.1), AV.int .i64 ((r).2.2.1), AV.int .i64 ((r).2.2.2.1), AV.int .i64 ((r).2.2.2.2)]])
set_option maxHeartbeats 4000000 in
theorem st_expr_parser_any (n : Nat) (ih_expr_parser_any : OK_expr_parser_any n) (ih_expr_parser_both : OK_expr_parser_both n) (ih_expr_parser_compared : OK_expr_parser_compared n) (ih_expr_parser_inner : OK_expr_parser_inner n) (ih_expr_parser_inner_1 : OK_expr_parser_inner_1 n) (ih_expr_parser_product : OK_expr_parser_product n) (ih_expr_parser_row : OK_expr_parser_row n) (ih_expr_parser_row_1 : OK_expr_parser_row_1 n) (ih_expr_parser_row_2 : OK_expr_parser_row_2 n) (ih_expr_parser_row_3 : OK_expr_parser_row_3 n) (ih_expr_parser_row_4 : OK_expr_parser_row_4 n) (ih_expr_parser_single : OK_expr_parser_single n) (ih_expr_parser_sum : OK_expr_parser_sum n) : OK_expr_parser_any (n + 1) := by
  intro p_l p_i p_in p_e p_at r hm
  rw [m_expr_parser_any] at hm
  refine callN_eq' Try.func30 (by rfl) rfl rfl (Nat.le_of_ble_eq_true rfl) ?_
  intro call hc
  conv => lhs; whnf
  refine bind_some2 hm ?_; clear hm; intro y1 hy1 hm
  have hk2 : call false 40 [AV.ptr 0 0, AV.func 41 [] [], AV.bool (false), AV.sl 1 [[AV.int .i64 (14)]]] [Ob.var 48 [AV.sl 4 (List.map c_api_Token (p_l)), AV.int .i64 (p_i), AV.int .i64 (p_in), AV.int .i64 (p_e), AV.int .i64 (p_at)]] = some (AV.sl 5 (List.map c_api_Node ((y1).1)), [Ob.var 48 [AV.sl 4 (List.map c_api_Token (p_l)), AV.int .i64 ((y1).2.1), AV.int .i64 ((y1).2.2.1), AV.int .i64 ((y1).2.2.2.1), AV.int .i64 ((y1).2.2.2.2)]]) := (hc _ _ _).trans (ih_expr_parser_row false ([14] : List Int) p_l p_i p_in p_e p_at y1 hy1)
  try simp only [List.drop_zero, ls]
  first | simp only [hk2] | rewrite [hk2]
  try simp only [ls]
  conv => lhs; whnf
  have hq := Option.some.inj hm; clear hm; subst hq
  try simp only [ls]
  exact fq (y := some (AV.sl 5 (List.map c_api_Node ((y1).1)), [Ob.var 48 [AV.sl 4 (List.map c_api_Token (p_l)), AV.int .i64 ((y1).2.1), AV.int .i64 ((y1).2.2.1), AV.int .i64 ((y1).2.2.2.1), AV.int .i64 ((y1).2.2.2.2)]]))
set_option maxHeartbeats 4000000 in
theorem st_expr_parser_both (n : Nat) (ih_expr_parser_any : OK_expr_parser_any n) (ih_expr_parser_both : OK_expr_parser_both n) (ih_expr_parser_compared : OK_expr_parser_compared n) (ih_expr_parser_inner : OK_expr_parser_inner n) (ih_expr_parser_inner_1 : OK_expr_parser_inner_1 n) (ih_expr_parser_product : OK_expr_parser_product n) (ih_expr_parser_row : OK_expr_parser_row n) (ih_expr_parser_row_1 : OK_expr_parser_row_1 n) (ih_expr_parser_row_2 : OK_expr_parser_row_2 n) (ih_expr_parser_row_3 : OK_expr_parser_row_3 n) (ih_expr_parser_row_4 : OK_expr_parser_row_4 n) (ih_expr_parser_single : OK_expr_parser_single n) (ih_expr_parser_sum : OK_expr_parser_sum n) : OK_expr_parser_both (n + 1) := by
  intro p_l p_i p_in p_e p_at r hm
  rw [m_expr_parser_both] at hm
  refine callN_eq' Try.func41 (by rfl) rfl rfl (Nat.le_of_ble_eq_true rfl) ?_
  intro call hc
  conv => lhs; whnf
  refine bind_some2 hm ?_; clear hm; intro y1 hy1 hm
  have hk2 : call false 40 [AV.ptr 0 0, AV.func 51 [] [], AV.bool (false), AV.sl 1 [[AV.int .i64 (13)]]] [Ob.var 48 [AV.sl 4 (List.map c_api_Token (p_l)), AV.int .i64 (p_i), AV.int .i64 (p_in), AV.int .i64 (p_e), AV.int .i64 (p_at)]] = some (AV.sl 5 (List.map c_api_Node ((y1).1)), [Ob.var 48 [AV.sl 4 (List.map c_api_Token (p_l)), AV.int .i64 ((y1).2.1), AV.int .i64 ((y1).2.2.1), AV.int .i64 ((y1).2.2.2.1), AV.int .i64 ((y1).2.2.2.2)]]) := (hc _ _ _).trans (ih_expr_parser_row_1 false ([13] : List Int) p_l p_i p_in p_e p_at y1 hy1)
  try simp only [List.drop_zero, ls]
  first | simp only [hk2] | rewrite [hk2]
  try simp only [ls]
  conv => lhs; whnf
  have hq := Option.some.inj hm; clear hm; subst hq
  try simp only [ls]
  exact fq (y := some (AV.sl 5 (List.map c_api_Node ((y1).1)), [Ob.var 48 [AV.sl 4 (List.map c_api_Token (p_l)), AV.int .i64 ((y1).2.1), AV.int .i64 ((y1).2.2.1), AV.int .i64 ((y1).2.2.2.1), AV.int .i64 ((y1).2.2.2.2)]]))
set_option maxHeartbeats 4000000 in
theorem st_expr_parser_compared (n : Nat) (ih_expr_parser_any : OK_expr_parser_any n) (ih_expr_parser_both : OK_expr_parser_both n) (ih_expr_parser_compared : OK_expr_parser_compared n) (ih_expr_parser_inner : OK_expr_parser_inner n) (ih_expr_parser_inner_1 : OK_expr_parser_inner_1 n) (ih_expr_parser_product : OK_expr_parser_product n) (ih_expr_parser_row : OK_expr_parser_row n) (ih_expr_parser_row_1 : OK_expr_parser_row_1 n) (ih_expr_parser_row_2 : OK_expr_parser_row_2 n) (ih_expr_parser_row_3 : OK_expr_parser_row_3 n) (ih_expr_parser_row_4 : OK_expr_parser_row_4 n) (ih_expr_parser_single : OK_expr_parser_single n) (ih_expr_parser_sum : OK_expr_parser_sum n) : OK_expr_parser_compared (n + 1) := by
  intro p_l p_i p_in p_e p_at r hm
  rw [m_expr_parser_compared] at hm
  refine callN_eq' Try.func51 (by rfl) rfl rfl (Nat.le_of_ble_eq_true rfl) ?_
  intro call hc
  conv => lhs; whnf
  refine bind_some2 hm ?_; clear hm; intro y1 hy1 hm
  have hk2 : call false 40 [AV.ptr 0 0, AV.func 53 [] [], AV.bool (true), AV.sl 1 [[AV.int .i64 (9)], [AV.int .i64 (10)], [AV.int .i64 (11)], [AV.int .i64 (12)]]] [Ob.var 48 [AV.sl 4 (List.map c_api_Token (p_l)), AV.int .i64 (p_i), AV.int .i64 (p_in), AV.int .i64 (p_e), AV.int .i64 (p_at)]] = some (AV.sl 5 (List.map c_api_Node ((y1).1)), [Ob.var 48 [AV.sl 4 (List.map c_api_Token (p_l)), AV.int .i64 ((y1).2.1), AV.int .i64 ((y1).2.2.1), AV.int .i64 ((y1).2.2.2.1), AV.int .i64 ((y1).2.2.2.2)]]) := (hc _ _ _).trans (ih_expr_parser_row_2 true ([9, 10, 11, 12] : List Int) p_l p_i p_in p_e p_at y1 hy1)
  try simp only [List.drop_zero, ls]
  first | simp only [hk2] | rewrite [hk2]
  try simp only [ls]
  conv => lhs; whnf
  have hq := Option.some.inj hm; clear hm; subst hq
  try simp only [ls]
  exact fq (y := some (AV.sl 5 (List.map c_api_Node ((y1).1)), [Ob.var 48 [AV.sl 4 (List.map c_api_Token (p_l)), AV.int .i64 ((y1).2.1), AV.int .i64 ((y1).2.2.1), AV.int .i64 ((y1).2.2.2.1), AV.int .i64 ((y1).2.2.2.2)]]))
set_option maxHeartbeats 4000000 in
theorem st_expr_parser_inner (n : Nat) (ih_expr_parser_any : OK_expr_parser_any n) (ih_expr_parser_both : OK_expr_parser_both n) (ih_expr_parser_compared : OK_expr_parser_compared n) (ih_expr_parser_inner : OK_expr_parser_inner n) (ih_expr_parser_inner_1 : OK_expr_parser_inner_1 n) (ih_expr_parser_product : OK_expr_parser_product n) (ih_expr_parser_row : OK_expr_parser_row n) (ih_expr_parser_row_1 : OK_expr_parser_row_1 n) (ih_expr_parser_row_2 : OK_expr_parser_row_2 n) (ih_expr_parser_row_3 : OK_expr_parser_row_3 n) (ih_expr_parser_row_4 : OK_expr_parser_row_4 n) (ih_expr_parser_single : OK_expr_parser_single n) (ih_expr_parser_sum : OK_expr_parser_sum n) : OK_expr_parser_inner (n + 1) := by
  intro p_l p_i p_in p_e p_at r hm
  rw [m_expr_parser_inner] at hm
  refine callN_eq' Try.func56 (by rfl) rfl rfl (Nat.le_of_ble_eq_true rfl) ?_
  intro call hc
  conv => lhs; whnf
  refine bif_or2 hm ?_ ?_ <;> clear hm <;> intro hc1 hm
  · simp only [hc1, ls]
    conv => lhs; whnf
    refine bind_some2 hm ?_; clear hm; intro y2 hy2 hm
    have hk3 : call false 57 [AV.ptr 0 0, AV.int .i64 (7)] [Ob.var 48 [AV.sl 4 (List.map c_api_Token (p_l)), AV.int .i64 (p_i), AV.int .i64 (p_in), AV.int .i64 (p_e), AV.int .i64 (p_at)]] = some (AV.sl 5 (List.map c_api_Node ((y2).1)), [Ob.var 48 [AV.sl 4 (List.map c_api_Token (p_l)), AV.int .i64 (p_i), AV.int .i64 (p_in), AV.int .i64 ((y2).2.1), AV.int .i64 ((y2).2.2)]]) := (hc _ _ _).trans (ok_expr_parser_fail n 7 p_l p_i p_in p_e p_at y2 hy2)
    try simp only [List.drop_zero, ls]
    first | simp only [hk3] | rewrite [hk3]
    try simp only [ls]
    conv => lhs; whnf
    have hq := Option.some.inj hm; clear hm; subst hq
    try simp only [ls]
    exact fq (y := some (AV.sl 5 (List.map c_api_Node ((y2).1)), [Ob.var 48 [AV.sl 4 (List.map c_api_Token (p_l)), AV.int .i64 (p_i), AV.int .i64 (p_in), AV.int .i64 ((y2).2.1), AV.int .i64 ((y2).2.2)]]))
  · simp only [hc1, ls]
    conv => lhs; whnf
    refine bind_some2 hm ?_; clear hm; intro y4 hy4 hm
    have hk5 : call false 55 [AV.ptr 0 0] [Ob.var 48 [AV.sl 4 (List.map c_api_Token (p_l)), AV.int .i64 (IntKind.i64.wrap (p_i + 1)), AV.int .i64 (IntKind.i64.wrap (p_in + 1)), AV.int .i64 (p_e), AV.int .i64 (p_at)]] = some (AV.sl 5 (List.map c_api_Node ((y4).1)), [Ob.var 48 [AV.sl 4 (List.map c_api_Token (p_l)), AV.int .i64 ((y4).2.1), AV.int .i64 ((y4).2.2.1), AV.int .i64 ((y4).2.2.2.1), AV.int .i64 ((y4).2.2.2.2)]]) := (hc _ _ _).trans (ih_expr_parser_single p_l (IntKind.i64.wrap (p_i + 1)) (IntKind.i64.wrap (p_in + 1)) p_e p_at y4 hy4)
    try simp only [List.drop_zero, ls]
    first | simp only [hk5] | rewrite [hk5]
    try simp only [ls]
    conv => lhs; whnf
    have hq := Option.some.inj hm; clear hm; subst hq
    try simp only [ls]
    exact fq (y := some (AV.sl 5 (List.map c_api_Node ((y4).1)), [Ob.var 48 [AV.sl 4 (List.map c_api_Token (p_l)), AV.int .i64 ((y4).2.1), AV.int .i64 (IntKind.i64.wrap (((y4).2.2.1) - 1)), AV.int .i64 ((y4).2.2.2.1), AV.int .i64 ((y4).2.2.2.2)]]))
set_option maxHeartbeats 4000000 in
theorem st_expr_parser_inner_1 (n : Nat) (ih_expr_parser_any : OK_expr_parser_any n) (ih_expr_parser_both : OK_expr_parser_both n) (ih_expr_parser_compared : OK_expr_parser_compared n) (ih_expr_parser_inner : OK_expr_parser_inner n) (ih_expr_parser_inner_1 : OK_expr_parser_inner_1 n) (ih_expr_parser_product : OK_expr_parser_product n) (ih_expr_parser_row : OK_expr_parser_row n) (ih_expr_parser_row_1 : OK_expr_parser_row_1 n) (ih_expr_parser_row_2 : OK_expr_parser_row_2 n) (ih_expr_parser_row_3 : OK_expr_parser_row_3 n) (ih_expr_parser_row_4 : OK_expr_parser_row_4 n) (ih_expr_parser_single : OK_expr_parser_single n) (ih_expr_parser_sum : OK_expr_parser_sum n) : OK_expr_parser_inner_1 (n + 1) := by
  intro p_l p_i p_in p_e p_at r hm
  rw [m_expr_parser_inner_1] at hm
  refine callN_eq' Try.func56 (by rfl) rfl rfl (Nat.le_of_ble_eq_true rfl) ?_
  intro call hc
  conv => lhs; whnf
  refine bif_or2 hm ?_ ?_ <;> clear hm <;> intro hc1 hm
  · simp only [hc1, ls]
    conv => lhs; whnf
    refine bind_some2 hm ?_; clear hm; intro y2 hy2 hm
    have hk3 : call false 57 [AV.ptr 0 0, AV.int .i64 (7)] [Ob.var 48 [AV.sl 4 (List.map c_api_Token (p_l)), AV.int .i64 (p_i), AV.int .i64 (p_in), AV.int .i64 (p_e), AV.int .i64 (p_at)]] = some (AV.sl 5 (List.map c_api_Node ((y2).1)), [Ob.var 48 [AV.sl 4 (List.map c_api_Token (p_l)), AV.int .i64 (p_i), AV.int .i64 (p_in), AV.int .i64 ((y2).2.1), AV.int .i64 ((y2).2.2)]]) := (hc _ _ _).trans (ok_expr_parser_fail n 7 p_l p_i p_in p_e p_at y2 hy2)
    try simp only [List.drop_zero, ls]
    first | simp only [hk3] | rewrite [hk3]
    try simp only [ls]
    conv => lhs; whnf
    have hq := Option.some.inj hm; clear hm; subst hq
    try simp only [ls]
    exact fq (y := some (AV.sl 5 (List.map c_api_Node ((y2).1)), [Ob.var 48 [AV.sl 4 (List.map c_api_Token (p_l)), AV.int .i64 (p_i), AV.int .i64 (p_in), AV.int .i64 ((y2).2.1), AV.int .i64 ((y2).2.2)]]))
  · simp only [hc1, ls]
    conv => lhs; whnf
    refine bind_some2 hm ?_; clear hm; intro y4 hy4 hm
    have hk5 : call false 30 [AV.ptr 0 0] [Ob.var 48 [AV.sl 4 (List.map c_api_Token (p_l)), AV.int .i64 (IntKind.i64.wrap (p_i + 1)), AV.int .i64 (IntKind.i64.wrap (p_in + 1)), AV.int .i64 (p_e), AV.int .i64 (p_at)]] = some (AV.sl 5 (List.map c_api_Node ((y4).1)), [Ob.var 48 [AV.sl 4 (List.map c_api_Token (p_l)), AV.int .i64 ((y4).2.1), AV.int .i64 ((y4).2.2.1), AV.int .i64 ((y4).2.2.2.1), AV.int .i64 ((y4).2.2.2.2)]]) := (hc _ _ _).trans (ih_expr_parser_any p_l (IntKind.i64.wrap (p_i + 1)) (IntKind.i64.wrap (p_in + 1)) p_e p_at y4 hy4)
    try simp only [List.drop_zero, ls]
    first | simp only [hk5] | rewrite [hk5]
    try simp only [ls]
    conv => lhs; whnf
    have hq := Option.some.inj hm; clear hm; subst hq
    try simp only [ls]
    exact fq (y := some (AV.sl 5 (List.map c_api_Node ((y4).1)), [Ob.var 48 [AV.sl 4 (List.map c_api_Token (p_l)), AV.int .i64 ((y4).2.1), AV.int .i64 (IntKind.i64.wrap (((y4).2.2.1) - 1)), AV.int .i64 ((y4).2.2.2.1), AV.int .i64 ((y4).2.2.2.2)]]))
set_option maxHeartbeats 4000000 in
theorem st_expr_parser_product (n : Nat) (ih_expr_parser_any : OK_expr_parser_any n) (ih_expr_parser_both : OK_expr_parser_both n) (ih_expr_parser_compared : OK_expr_parser_compared n) (ih_expr_parser_inner : OK_expr_parser_inner n) (ih_expr_parser_inner_1 : OK_expr_parser_inner_1 n) (ih_expr_parser_product : OK_expr_parser_product n) (ih_expr_parser_row : OK_expr_parser_row n) (ih_expr_parser_row_1 : OK_expr_parser_row_1 n) (ih_expr_parser_row_2 : OK_expr_parser_row_2 n) (ih_expr_parser_row_3 : OK_expr_parser_row_3 n) (ih_expr_parser_row_4 : OK_expr_parser_row_4 n) (ih_expr_parser_single : OK_expr_parser_single n) (ih_expr_parser_sum : OK_expr_parser_sum n) : OK_expr_parser_product (n + 1) := by
  intro p_l p_i p_in p_e p_at r hm
  rw [m_expr_parser_product] at hm
  refine callN_eq' Try.func54 (by rfl) rfl rfl (Nat.le_of_ble_eq_true rfl) ?_
  intro call hc
  conv => lhs; whnf
  refine bind_some2 hm ?_; clear hm; intro y1 hy1 hm
  have hk2 : call false 40 [AV.ptr 0 0, AV.func 55 [] [], AV.bool (false), AV.sl 1 [[AV.int .i64 (8)]]] [Ob.var 48 [AV.sl 4 (List.map c_api_Token (p_l)), AV.int .i64 (p_i), AV.int .i64 (p_in), AV.int .i64 (p_e), AV.int .i64 (p_at)]] = some (AV.sl 5 (List.map c_api_Node ((y1).1)), [Ob.var 48 [AV.sl 4 (List.map c_api_Token (p_l)), AV.int .i64 ((y1).2.1), AV.int .i64 ((y1).2.2.1), AV.int .i64 ((y1).2.2.2.1), AV.int .i64 ((y1).2.2.2.2)]]) := (hc _ _ _).trans (ih_expr_parser_row_4 false ([8] : List Int) p_l p_i p_in p_e p_at y1 hy1)
  try simp only [List.drop_zero, ls]
  first | simp only [hk2] | rewrite [hk2]
  try simp only [ls]
  conv => lhs; whnf
  have hq := Option.some.inj hm; clear hm; subst hq
  try simp only [ls]
  exact fq (y := some (AV.sl 5 (List.map c_api_Node ((y1).1)), [Ob.var 48 [AV.sl 4 (List.map c_api_Token (p_l)), AV.int .i64 ((y1).2.1), AV.int .i64 ((y1).2.2.1), AV.int .i64 ((y1).2.2.2.1), AV.int .i64 ((y1).2.2.2.2)]]))
set_option maxHeartbeats 4000000 in
theorem st_expr_parser_row (n : Nat) (ih_expr_parser_any : OK_expr_parser_any n) (ih_expr_parser_both : OK_expr_parser_both n) (ih_expr_parser_compared : OK_expr_parser_compared n) (ih_expr_parser_inner : OK_expr_parser_inner n) (ih_expr_parser_inner_1 : OK_expr_parser_inner_1 n) (ih_expr_parser_product : OK_expr_parser_product n) (ih_expr_parser_row : OK_expr_parser_row n) (ih_expr_parser_row_1 : OK_expr_parser_row_1 n) (ih_expr_parser_row_2 : OK_expr_parser_row_2 n) (ih_expr_parser_row_3 : OK_expr_parser_row_3 n) (ih_expr_parser_row_4 : OK_expr_parser_row_4 n) (ih_expr_parser_single : OK_expr_parser_single n) (ih_expr_parser_sum : OK_expr_parser_sum n) : OK_expr_parser_row (n + 1) := by
  intro v2_once v3_ops p_l p_i p_in p_e p_at r hm
  rw [m_expr_parser_row] at hm
  refine callN_eq' Try.func40 (by rfl) rfl rfl (Nat.le_of_ble_eq_true rfl) ?_
  intro call hc
  conv => lhs; whnf
  refine bind_some2 hm ?_; clear hm; intro y1 hy1 hm
  have hk2 : call false 41 [AV.ptr 0 0] [Ob.var 48 [AV.sl 4 (List.map c_api_Token (p_l)), AV.int .i64 (p_i), AV.int .i64 (p_in), AV.int .i64 (p_e), AV.int .i64 (p_at)]] = some (AV.sl 5 (List.map c_api_Node ((y1).1)), [Ob.var 48 [AV.sl 4 (List.map c_api_Token (p_l)), AV.int .i64 ((y1).2.1), AV.int .i64 ((y1).2.2.1), AV.int .i64 ((y1).2.2.2.1), AV.int .i64 ((y1).2.2.2.2)]]) := (hc _ _ _).trans (ih_expr_parser_both p_l p_i p_in p_e p_at y1 hy1)
  try simp only [List.drop_zero, ls]
  first | simp only [hk2] | rewrite [hk2]
  try simp only [ls]
  conv => lhs; whnf
  refine bind_some2 hm ?_; clear hm; intro o16 ho16 hm
  refine rounds_sim (σ := (Bool × (List S_api_Node) × Int × Int × Int × Int)) (τ := ((List S_api_Node) × Int × Int × Int × Int)) (ν := ((List S_api_Node) × Int × Int × Int × Int)) 0 (fun (s3, s4, s5, s6, s7, s8) a10 => stOf 67 [(0, AV.ptr 0 0), (1, AV.func 41 [] []), (2, AV.bool (s3)), (3, AV.sl 1 (List.map encI (v3_ops))), (9, AV.sl 5 (List.map c_api_Node (s4)))]) (fun (s3, s4, s5, s6, s7, s8) a10 => [Ob.var 48 [AV.sl 4 (List.map c_api_Token (p_l)), AV.int .i64 (s5), AV.int .i64 (s6), AV.int .i64 (s7), AV.int .i64 (s8)]]) (fun (x46, x47, x48, x49, x50) a45 => stOf 67 [(9, AV.sl 5 (List.map c_api_Node (x46)))]) (fun (x46, x47, x48, x49, x50) a45 => [Ob.var 48 [AV.sl 4 (List.map c_api_Token (p_l)), AV.int .i64 (x47), AV.int .i64 (x48), AV.int .i64 (x49), AV.int .i64 (x50)]]) (fun v => (AV.sl 5 (List.map c_api_Node ((v).1)), [Ob.var 48 [AV.sl 4 (List.map c_api_Token (p_l)), AV.int .i64 ((v).2.1), AV.int .i64 ((v).2.2.1), AV.int .i64 ((v).2.2.2.1), AV.int .i64 ((v).2.2.2.2)]])) (fun k s => expr_parser_row_L0 n (m_expr_parser_both n) v3_ops p_l k ((s).1) ((s).2.1) ((s).2.2.1) ((s).2.2.2.1) ((s).2.2.2.2.1) ((s).2.2.2.2.2)) (fun s => rfl) o16 ?_ n (v2_once, (y1).1, (y1).2.1, (y1).2.2.1, (y1).2.2.2.1, (y1).2.2.2.2) (fun _ => 0) _ _ ho16 ?_ (by first | rfl | (simp only [ls, List.map_append, List.map_cons, List.map_nil, List.append_nil, List.length_set, length_copyL] <;> rfl)) (by first | rfl | (simp only [ls, List.map_append, List.map_cons, List.map_nil, List.append_nil, List.length_set, length_copyL] <;> rfl))
  · intro k9 ss a10 K11 cont12 hK13 hcont14 hm hr15
    obtain ⟨s3, s4, s5, s6, s7, s8⟩ := ss
    replace hm : expr_parser_row_L0 n (m_expr_parser_both n) v3_ops p_l (k9 + 1) s3 s4 s5 s6 s7 s8 = some o16 := hm
    rw [expr_parser_row_L0] at hm
    conv => lhs; whnf
    refine bif_or2 hm ?_ ?_ <;> clear hm <;> intro hc17 hm
    · simp only [hc17, ls]
      conv => lhs; whnf
      refine bind_some2 hm ?_; clear hm; intro o27 ho27 hm
      refine rounds_sim (σ := (Int × Int)) (τ := Int) (ν := ((List S_api_Node) × Int × Int × Int × Int)) 2 (fun (s18, s19) a21 => stOf 67 [(0, AV.ptr 0 0), (1, AV.func 41 [] []), (2, AV.bool (s3)), (3, AV.sl 1 (List.map encI (v3_ops))), (9, AV.sl 5 (List.map c_api_Node (s4))), (10, AV.int .i64 (s18)), (23, AV.sl 1 (List.map encI (v3_ops))), (24, AV.int .i64 ((((v3_ops).length : Nat) : Int))), (25, AV.int .i64 (s19))]) (fun (s18, s19) a21 => [Ob.var 48 [AV.sl 4 (List.map c_api_Token (p_l)), AV.int .i64 (s5), AV.int .i64 (s6), AV.int .i64 (s7), AV.int .i64 (s8)]]) (fun x36 a35 => stOf 67 [(0, AV.ptr 0 0), (1, AV.func 41 [] []), (2, AV.bool (s3)), (3, AV.sl 1 (List.map encI (v3_ops))), (9, AV.sl 5 (List.map c_api_Node (s4))), (10, AV.int .i64 (x36))]) (fun x36 a35 => [Ob.var 48 [AV.sl 4 (List.map c_api_Token (p_l)), AV.int .i64 (s5), AV.int .i64 (s6), AV.int .i64 (s7), AV.int .i64 (s8)]]) (fun v => (AV.sl 5 (List.map c_api_Node ((v).1)), [Ob.var 48 [AV.sl 4 (List.map c_api_Token (p_l)), AV.int .i64 ((v).2.1), AV.int .i64 ((v).2.2.1), AV.int .i64 ((v).2.2.2.1), AV.int .i64 ((v).2.2.2.2)]])) (fun k s => expr_parser_row_L1 n v3_ops p_l s5 s6 s7 s8 k ((s).1) ((s).2)) (fun s => rfl) o27 ?_ n (0, 0) (fun _ => 0) _ _ ho27 ?_ (by first | rfl | (simp only [ls, List.map_append, List.map_cons, List.map_nil, List.append_nil, List.length_set, length_copyL] <;> rfl)) (by first | rfl | (simp only [ls, List.map_append, List.map_cons, List.map_nil, List.append_nil, List.length_set, length_copyL] <;> rfl))
      · intro k20 ss a21 K22 cont23 hK24 hcont25 hm hr26
        obtain ⟨s18, s19⟩ := ss
        replace hm : expr_parser_row_L1 n v3_ops p_l s5 s6 s7 s8 (k20 + 1) s18 s19 = some o27 := hm
        rw [expr_parser_row_L1] at hm
        conv => lhs; whnf
        refine bif_or2 hm ?_ ?_ <;> clear hm <;> intro hc28 hm
        · simp only [hc28, ls]
          conv => lhs; whnf
          refine bind_some2 hm ?_; clear hm; intro x29 hx29 hm
          refine bif_pos (by first | exact idx_in hx29 | exact idx_in' hx29) ?_
          simp only [idx_nth (f := encI) hx29, ls]
          conv => lhs; whnf
          refine bind_some2 hm ?_; clear hm; intro y30 hy30 hm
          have hk31 : call false 34 [AV.int .i64 (x29)] [] = some (AV.str (y30), []) := (hc _ _ _).trans (ok_expr_sign n x29 y30 hy30)
          try simp only [List.drop_zero, ls]
          first | simp only [hk31] | rewrite [hk31]
          try simp only [ls]
          conv => lhs; whnf
          refine bind_some2 hm ?_; clear hm; intro y32 hy32 hm
          have hk33 : call false 49 [AV.ptr 0 0, AV.str (y30)] [Ob.var 48 [AV.sl 4 (List.map c_api_Token (p_l)), AV.int .i64 (s5), AV.int .i64 (s6), AV.int .i64 (s7), AV.int .i64 (s8)]] = some (AV.bool (y32), [Ob.var 48 [AV.sl 4 (List.map c_api_Token (p_l)), AV.int .i64 (s5), AV.int .i64 (s6), AV.int .i64 (s7), AV.int .i64 (s8)]]) := (hc _ _ _).trans (ok_expr_parser_is n y30 p_l s5 s6 s7 s8 y32 hy32)
          try simp only [List.drop_zero, ls]
          first | simp only [hk33] | rewrite [hk33]
          try simp only [ls]
          conv => lhs; whnf
          refine bif_or2 hm ?_ ?_ <;> clear hm <;> intro hc34 hm
          · simp only [hc34, ls]
            conv => lhs; whnf
            exact cq (hcont25 (x29, IntKind.i64.wrap (s19 + 1)) (fun _ => 0) hm)
          · simp only [hc34, ls]
            conv => lhs; whnf
            exact cq (hcont25 (s18, IntKind.i64.wrap (s19 + 1)) (fun _ => 0) hm)
        · simp only [hc28, ls]
          conv => lhs; whnf
          have hq := Option.some.inj hm; clear hm; subst hq
          exact kq (hr26 (fun _ => 0))
      · cases o27 with
        | ret v =>
          have hq := Option.some.inj hm; clear hm; subst hq
          exact hr15
        | out t =>
          obtain ⟨x36, rfl⟩ : ∃ x, x = t := ⟨_, rfl⟩
          intro a35
          dsimp only at hm
          conv => lhs; whnf
          refine bif_or2 hm ?_ ?_ <;> clear hm <;> intro hc37 hm
          · simp only [hc37, ls]
            conv => lhs; whnf
            have hq := Option.some.inj hm; clear hm; subst hq
            exact kq (hr15 (fun _ => 0))
          · simp only [hc37, ls]
            conv => lhs; whnf
            refine bind_some2 hm ?_; clear hm; intro x38 hx38 hm
            refine bif_pos (by first | exact idx_in hx38 | exact idx_in' hx38) ?_
            simp only [idx_nth (f := c_api_Token) hx38, ls]
            conv => lhs; whnf
            refine bind_some2 hm ?_; clear hm; intro y39 hy39 hm
            have hk40 : call false 41 [AV.ptr 0 0] [Ob.var 48 [AV.sl 4 (List.map c_api_Token (p_l)), AV.int .i64 (IntKind.i64.wrap (s5 + 1)), AV.int .i64 (s6), AV.int .i64 (s7), AV.int .i64 (s8)]] = some (AV.sl 5 (List.map c_api_Node ((y39).1)), [Ob.var 48 [AV.sl 4 (List.map c_api_Token (p_l)), AV.int .i64 ((y39).2.1), AV.int .i64 ((y39).2.2.1), AV.int .i64 ((y39).2.2.2.1), AV.int .i64 ((y39).2.2.2.2)]]) := (hc _ _ _).trans (ih_expr_parser_both p_l (IntKind.i64.wrap (s5 + 1)) s6 s7 s8 y39 hy39)
            try simp only [List.drop_zero, ls]
            first | simp only [hk40] | rewrite [hk40]
            try simp only [ls]
            conv => lhs; whnf
            refine bind_some2 hm ?_; clear hm; intro y41 hy41 hm
            have hk42 : call false 50 [AV.agg [AV.int .i64 (x36), AV.int .i64 (0), AV.str (([] : List UInt8)), AV.str (([] : List UInt8)), AV.int .i64 (x38.f_At)], AV.sl 1 [[AV.sl 5 (List.map c_api_Node (s4))], [AV.sl 5 (List.map c_api_Node ((y39).1))]]] [] = some (AV.sl 5 (List.map c_api_Node (y41)), []) := (hc _ _ _).trans (ok_expr_node n (⟨x36, 0, ([] : List UInt8), ([] : List UInt8), x38.f_At⟩ : S_api_Node) ([s4, (y39).1] : List (List S_api_Node)) y41 hy41)
            try simp only [List.length_nil, List.map_nil] at hk42
            try simp only [List.length_nil, List.map_nil]
            try simp only [List.drop_zero, ls]
            first | simp only [hk42] | rewrite [hk42]
            try simp only [ls]
            conv => lhs; whnf
            refine bif_or2 hm ?_ ?_ <;> clear hm <;> intro hc43 hm
            · simp only [hc43, ls]
              conv => lhs; whnf
              have hq := Option.some.inj hm; clear hm; subst hq
              exact kq (hr15 (fun _ => 0))
            · simp only [hc43, ls]
              conv => lhs; whnf
              exact cq (hcont14 (false, y41, (y39).2.1, (y39).2.2.1, (y39).2.2.2.1, (y39).2.2.2.2) (fun _ => 0) hm)
    · simp only [hc17, ls]
      conv => lhs; whnf
      have hq := Option.some.inj hm; clear hm; subst hq
      exact kq (hr15 (fun _ => 0))
  · cases o16 with
    | ret v =>
      have hq := Option.some.inj hm; clear hm; subst hq
      rfl
    | out t =>
      obtain ⟨x46, x47, x48, x49, x50⟩ := t
      intro a45
      dsimp only at hm
      conv => lhs; whnf
      have hq := Option.some.inj hm; clear hm; subst hq
      try simp only [ls]
      exact fq (y := some (AV.sl 5 (List.map c_api_Node (x46)), [Ob.var 48 [AV.sl 4 (List.map c_api_Token (p_l)), AV.int .i64 (x47), AV.int .i64 (x48), AV.int .i64 (x49), AV.int .i64 (x50)]]))
set_option maxHeartbeats 4000000 in
theorem st_expr_parser_row_1 (n : Nat) (ih_expr_parser_any : OK_expr_parser_any n) (ih_expr_parser_both : OK_expr_parser_both n) (ih_expr_parser_compared : OK_expr_parser_compared n) (ih_expr_parser_inner : OK_expr_parser_inner n) (ih_expr_parser_inner_1 : OK_expr_parser_inner_1 n) (ih_expr_parser_product : OK_expr_parser_product n) (ih_expr_parser_row : OK_expr_parser_row n) (ih_expr_parser_row_1 : OK_expr_parser_row_1 n) (ih_expr_parser_row_2 : OK_expr_parser_row_2 n) (ih_expr_parser_row_3 : OK_expr_parser_row_3 n) (ih_expr_parser_row_4 : OK_expr_parser_row_4 n) (ih_expr_parser_single : OK_expr_parser_single n) (ih_expr_parser_sum : OK_expr_parser_sum n) : OK_expr_parser_row_1 (n + 1) := by
  intro v2_once v3_ops p_l p_i p_in p_e p_at r hm
  rw [m_expr_parser_row_1] at hm
  refine callN_eq' Try.func40 (by rfl) rfl rfl (Nat.le_of_ble_eq_true rfl) ?_
  intro call hc
  conv => lhs; whnf
  refine bind_some2 hm ?_; clear hm; intro y1 hy1 hm
  have hk2 : call false 51 [AV.ptr 0 0] [Ob.var 48 [AV.sl 4 (List.map c_api_Token (p_l)), AV.int .i64 (p_i), AV.int .i64 (p_in), AV.int .i64 (p_e), AV.int .i64 (p_at)]] = some (AV.sl 5 (List.map c_api_Node ((y1).1)), [Ob.var 48 [AV.sl 4 (List.map c_api_Token (p_l)), AV.int .i64 ((y1).2.1), AV.int .i64 ((y1).2.2.1), AV.int .i64 ((y1).2.2.2.1), AV.int .i64 ((y1).2.2.2.2)]]) := (hc _ _ _).trans (ih_expr_parser_compared p_l p_i p_in p_e p_at y1 hy1)
  try simp only [List.drop_zero, ls]
  first | simp only [hk2] | rewrite [hk2]
  try simp only [ls]
  conv => lhs; whnf
  refine bind_some2 hm ?_; clear hm; intro o16 ho16 hm
  refine rounds_sim (σ := (Bool × (List S_api_Node) × Int × Int × Int × Int)) (τ := ((List S_api_Node) × Int × Int × Int × Int)) (ν := ((List S_api_Node) × Int × Int × Int × Int)) 0 (fun (s3, s4, s5, s6, s7, s8) a10 => stOf 67 [(0, AV.ptr 0 0), (1, AV.func 51 [] []), (2, AV.bool (s3)), (3, AV.sl 1 (List.map encI (v3_ops))), (9, AV.sl 5 (List.map c_api_Node (s4)))]) (fun (s3, s4, s5, s6, s7, s8) a10 => [Ob.var 48 [AV.sl 4 (List.map c_api_Token (p_l)), AV.int .i64 (s5), AV.int .i64 (s6), AV.int .i64 (s7), AV.int .i64 (s8)]]) (fun (x46, x47, x48, x49, x50) a45 => stOf 67 [(9, AV.sl 5 (List.map c_api_Node (x46)))]) (fun (x46, x47, x48, x49, x50) a45 => [Ob.var 48 [AV.sl 4 (List.map c_api_Token (p_l)), AV.int .i64 (x47), AV.int .i64 (x48), AV.int .i64 (x49), AV.int .i64 (x50)]]) (fun v => (AV.sl 5 (List.map c_api_Node ((v).1)), [Ob.var 48 [AV.sl 4 (List.map c_api_Token (p_l)), AV.int .i64 ((v).2.1), AV.int .i64 ((v).2.2.1), AV.int .i64 ((v).2.2.2.1), AV.int .i64 ((v).2.2.2.2)]])) (fun k s => expr_parser_row_1_L0 n (m_expr_parser_compared n) v3_ops p_l k ((s).1) ((s).2.1) ((s).2.2.1) ((s).2.2.2.1) ((s).2.2.2.2.1) ((s).2.2.2.2.2)) (fun s => rfl) o16 ?_ n (v2_once, (y1).1, (y1).2.1, (y1).2.2.1, (y1).2.2.2.1, (y1).2.2.2.2) (fun _ => 0) _ _ ho16 ?_ (by first | rfl | (simp only [ls, List.map_append, List.map_cons, List.map_nil, List.append_nil, List.length_set, length_copyL] <;> rfl)) (by first | rfl | (simp only [ls, List.map_append, List.map_cons, List.map_nil, List.append_nil, List.length_set, length_copyL] <;> rfl))
  · intro k9 ss a10 K11 cont12 hK13 hcont14 hm hr15
    obtain ⟨s3, s4, s5, s6, s7, s8⟩ := ss
    replace hm : expr_parser_row_1_L0 n (m_expr_parser_compared n) v3_ops p_l (k9 + 1) s3 s4 s5 s6 s7 s8 = some o16 := hm
    rw [expr_parser_row_1_L0] at hm
    conv => lhs; whnf
    refine bif_or2 hm ?_ ?_ <;> clear hm <;> intro hc17 hm
    · simp only [hc17, ls]
      conv => lhs; whnf
      refine bind_some2 hm ?_; clear hm; intro o27 ho27 hm
      refine rounds_sim (σ := (Int × Int)) (τ := Int) (ν := ((List S_api_Node) × Int × Int × Int × Int)) 2 (fun (s18, s19) a21 => stOf 67 [(0, AV.ptr 0 0), (1, AV.func 51 [] []), (2, AV.bool (s3)), (3, AV.sl 1 (List.map encI (v3_ops))), (9, AV.sl 5 (List.map c_api_Node (s4))), (10, AV.int .i64 (s18)), (23, AV.sl 1 (List.map encI (v3_ops))), (24, AV.int .i64 ((((v3_ops).length : Nat) : Int))), (25, AV.int .i64 (s19))]) (fun (s18, s19) a21 => [Ob.var 48 [AV.sl 4 (List.map c_api_Token (p_l)), AV.int .i64 (s5), AV.int .i64 (s6), AV.int .i64 (s7), AV.int .i64 (s8)]]) (fun x36 a35 => stOf 67 [(0, AV.ptr 0 0), (1, AV.func 51 [] []), (2, AV.bool (s3)), (3, AV.sl 1 (List.map encI (v3_ops))), (9, AV.sl 5 (List.map c_api_Node (s4))), (10, AV.int .i64 (x36))]) (fun x36 a35 => [Ob.var 48 [AV.sl 4 (List.map c_api_Token (p_l)), AV.int .i64 (s5), AV.int .i64 (s6), AV.int .i64 (s7), AV.int .i64 (s8)]]) (fun v => (AV.sl 5 (List.map c_api_Node ((v).1)), [Ob.var 48 [AV.sl 4 (List.map c_api_Token (p_l)), AV.int .i64 ((v).2.1), AV.int .i64 ((v).2.2.1), AV.int .i64 ((v).2.2.2.1), AV.int .i64 ((v).2.2.2.2)]])) (fun k s => expr_parser_row_1_L1 n v3_ops p_l s5 s6 s7 s8 k ((s).1) ((s).2)) (fun s => rfl) o27 ?_ n (0, 0) (fun _ => 0) _ _ ho27 ?_ (by first | rfl | (simp only [ls, List.map_append, List.map_cons, List.map_nil, List.append_nil, List.length_set, length_copyL] <;> rfl)) (by first | rfl | (simp only [ls, List.map_append, List.map_cons, List.map_nil, List.append_nil, List.length_set, length_copyL] <;> rfl))
      · intro k20 ss a21 K22 cont23 hK24 hcont25 hm hr26
        obtain ⟨s18, s19⟩ := ss
        replace hm : expr_parser_row_1_L1 n v3_ops p_l s5 s6 s7 s8 (k20 + 1) s18 s19 = some o27 := hm
        rw [expr_parser_row_1_L1] at hm
        conv => lhs; whnf
        refine bif_or2 hm ?_ ?_ <;> clear hm <;> intro hc28 hm
        · simp only [hc28, ls]
          conv => lhs; whnf
          refine bind_some2 hm ?_; clear hm; intro x29 hx29 hm
          refine bif_pos (by first | exact idx_in hx29 | exact idx_in' hx29) ?_
          simp only [idx_nth (f := encI) hx29, ls]
          conv => lhs; whnf
          refine bind_some2 hm ?_; clear hm; intro y30 hy30 hm
          have hk31 : call false 34 [AV.int .i64 (x29)] [] = some (AV.str (y30), []) := (hc _ _ _).trans (ok_expr_sign n x29 y30 hy30)
          try simp only [List.drop_zero, ls]
          first | simp only [hk31] | rewrite [hk31]
          try simp only [ls]
          conv => lhs; whnf
          refine bind_some2 hm ?_; clear hm; intro y32 hy32 hm
          have hk33 : call false 49 [AV.ptr 0 0, AV.str (y30)] [Ob.var 48 [AV.sl 4 (List.map c_api_Token (p_l)), AV.int .i64 (s5), AV.int .i64 (s6), AV.int .i64 (s7), AV.int .i64 (s8)]] = some (AV.bool (y32), [Ob.var 48 [AV.sl 4 (List.map c_api_Token (p_l)), AV.int .i64 (s5), AV.int .i64 (s6), AV.int .i64 (s7), AV.int .i64 (s8)]]) := (hc _ _ _).trans (ok_expr_parser_is n y30 p_l s5 s6 s7 s8 y32 hy32)
          try simp only [List.drop_zero, ls]
          first | simp only [hk33] | rewrite [hk33]
          try simp only [ls]
          conv => lhs; whnf
          refine bif_or2 hm ?_ ?_ <;> clear hm <;> intro hc34 hm
          · simp only [hc34, ls]
            conv => lhs; whnf
            exact cq (hcont25 (x29, IntKind.i64.wrap (s19 + 1)) (fun _ => 0) hm)
          · simp only [hc34, ls]
            conv => lhs; whnf
            exact cq (hcont25 (s18, IntKind.i64.wrap (s19 + 1)) (fun _ => 0) hm)
        · simp only [hc28, ls]
          conv => lhs; whnf
          have hq := Option.some.inj hm; clear hm; subst hq
          exact kq (hr26 (fun _ => 0))
      · cases o27 with
        | ret v =>
          have hq := Option.some.inj hm; clear hm; subst hq
          exact hr15
        | out t =>
          obtain ⟨x36, rfl⟩ : ∃ x, x = t := ⟨_, rfl⟩
          intro a35
          dsimp only at hm
          conv => lhs; whnf
          refine bif_or2 hm ?_ ?_ <;> clear hm <;> intro hc37 hm
          · simp only [hc37, ls]
            conv => lhs; whnf
            have hq := Option.some.inj hm; clear hm; subst hq
            exact kq (hr15 (fun _ => 0))
          · simp only [hc37, ls]
            conv => lhs; whnf
            refine bind_some2 hm ?_; clear hm; intro x38 hx38 hm
            refine bif_pos (by first | exact idx_in hx38 | exact idx_in' hx38) ?_
            simp only [idx_nth (f := c_api_Token) hx38, ls]
            conv => lhs; whnf
            refine bind_some2 hm ?_; clear hm; intro y39 hy39 hm
            have hk40 : call false 51 [AV.ptr 0 0] [Ob.var 48 [AV.sl 4 (List.map c_api_Token (p_l)), AV.int .i64 (IntKind.i64.wrap (s5 + 1)), AV.int .i64 (s6), AV.int .i64 (s7), AV.int .i64 (s8)]] = some (AV.sl 5 (List.map c_api_Node ((y39).1)), [Ob.var 48 [AV.sl 4 (List.map c_api_Token (p_l)), AV.int .i64 ((y39).2.1), AV.int .i64 ((y39).2.2.1), AV.int .i64 ((y39).2.2.2.1), AV.int .i64 ((y39).2.2.2.2)]]) := (hc _ _ _).trans (ih_expr_parser_compared p_l (IntKind.i64.wrap (s5 + 1)) s6 s7 s8 y39 hy39)
            try simp only [List.drop_zero, ls]
            first | simp only [hk40] | rewrite [hk40]
            try simp only [ls]
            conv => lhs; whnf
            refine bind_some2 hm ?_; clear hm; intro y41 hy41 hm
            have hk42 : call false 50 [AV.agg [AV.int .i64 (x36), AV.int .i64 (0), AV.str (([] : List UInt8)), AV.str (([] : List UInt8)), AV.int .i64 (x38.f_At)], AV.sl 1 [[AV.sl 5 (List.map c_api_Node (s4))], [AV.sl 5 (List.map c_api_Node ((y39).1))]]] [] = some (AV.sl 5 (List.map c_api_Node (y41)), []) := (hc _ _ _).trans (ok_expr_node n (⟨x36, 0, ([] : List UInt8), ([] : List UInt8), x38.f_At⟩ : S_api_Node) ([s4, (y39).1] : List (List S_api_Node)) y41 hy41)
            try simp only [List.length_nil, List.map_nil] at hk42
            try simp only [List.length_nil, List.map_nil]
            try simp only [List.drop_zero, ls]
            first | simp only [hk42] | rewrite [hk42]
            try simp only [ls]
            conv => lhs; whnf
            refine bif_or2 hm ?_ ?_ <;> clear hm <;> intro hc43 hm
            · simp only [hc43, ls]
              conv => lhs; whnf
              have hq := Option.some.inj hm; clear hm; subst hq
              exact kq (hr15 (fun _ => 0))
            · simp only [hc43, ls]
              conv => lhs; whnf
              exact cq (hcont14 (false, y41, (y39).2.1, (y39).2.2.1, (y39).2.2.2.1, (y39).2.2.2.2) (fun _ => 0) hm)
    · simp only [hc17, ls]
      conv => lhs; whnf
      have hq := Option.some.inj hm; clear hm; subst hq
      exact kq (hr15 (fun _ => 0))
  · cases o16 with
    | ret v =>
      have hq := Option.some.inj hm; clear hm; subst hq
      rfl
    | out t =>
      obtain ⟨x46, x47, x48, x49, x50⟩ := t
      intro a45
      dsimp only at hm
      conv => lhs; whnf
      have hq := Option.some.inj hm; clear hm; subst hq
      try simp only [ls]
      exact fq (y := some (AV.sl 5 (List.map c_api_Node (x46)), [Ob.var 48 [AV.sl 4 (List.map c_api_Token (p_l)), AV.int .i64 (x47), AV.int .i64 (x48), AV.int .i64 (x49), AV.int .i64 (x50)]]))
set_option maxHeartbeats 4000000 in
theorem st_expr_parser_row_2 (n : Nat) (ih_expr_parser_any : OK_expr_parser_any n) (ih_expr_parser_both : OK_expr_parser_both n) (ih_expr_parser_compared : OK_expr_parser_compared n) (ih_expr_parser_inner : OK_expr_parser_inner n) (ih_expr_parser_inner_1 : OK_expr_parser_inner_1 n) (ih_expr_parser_product : OK_expr_parser_product n) (ih_expr_parser_row : OK_expr_parser_row n) (ih_expr_parser_row_1 : OK_expr_parser_row_1 n) (ih_expr_parser_row_2 : OK_expr_parser_row_2 n) (ih_expr_parser_row_3 : OK_expr_parser_row_3 n) (ih_expr_parser_row_4 : OK_expr_parser_row_4 n) (ih_expr_parser_single : OK_expr_parser_single n) (ih_expr_parser_sum : OK_expr_parser_sum n) : OK_expr_parser_row_2 (n + 1) := by
  intro v2_once v3_ops p_l p_i p_in p_e p_at r hm
  rw [m_expr_parser_row_2] at hm
  refine callN_eq' Try.func40 (by rfl) rfl rfl (Nat.le_of_ble_eq_true rfl) ?_
  intro call hc
  conv => lhs; whnf
  refine bind_some2 hm ?_; clear hm; intro y1 hy1 hm
  have hk2 : call false 53 [AV.ptr 0 0] [Ob.var 48 [AV.sl 4 (List.map c_api_Token (p_l)), AV.int .i64 (p_i), AV.int .i64 (p_in), AV.int .i64 (p_e), AV.int .i64 (p_at)]] = some (AV.sl 5 (List.map c_api_Node ((y1).1)), [Ob.var 48 [AV.sl 4 (List.map c_api_Token (p_l)), AV.int .i64 ((y1).2.1), AV.int .i64 ((y1).2.2.1), AV.int .i64 ((y1).2.2.2.1), AV.int .i64 ((y1).2.2.2.2)]]) := (hc _ _ _).trans (ih_expr_parser_sum p_l p_i p_in p_e p_at y1 hy1)
  try simp only [List.drop_zero, ls]
  first | simp only [hk2] | rewrite [hk2]
  try simp only [ls]
  conv => lhs; whnf
  refine bind_some2 hm ?_; clear hm; intro o16 ho16 hm
  refine rounds_sim (σ := (Bool × (List S_api_Node) × Int × Int × Int × Int)) (τ := ((List S_api_Node) × Int × Int × Int × Int)) (ν := ((List S_api_Node) × Int × Int × Int × Int)) 0 (fun (s3, s4, s5, s6, s7, s8) a10 => stOf 67 [(0, AV.ptr 0 0), (1, AV.func 53 [] []), (2, AV.bool (s3)), (3, AV.sl 1 (List.map encI (v3_ops))), (9, AV.sl 5 (List.map c_api_Node (s4)))]) (fun (s3, s4, s5, s6, s7, s8) a10 => [Ob.var 48 [AV.sl 4 (List.map c_api_Token (p_l)), AV.int .i64 (s5), AV.int .i64 (s6), AV.int .i64 (s7), AV.int .i64 (s8)]]) (fun (x46, x47, x48, x49, x50) a45 => stOf 67 [(9, AV.sl 5 (List.map c_api_Node (x46)))]) (fun (x46, x47, x48, x49, x50) a45 => [Ob.var 48 [AV.sl 4 (List.map c_api_Token (p_l)), AV.int .i64 (x47), AV.int .i64 (x48), AV.int .i64 (x49), AV.int .i64 (x50)]]) (fun v => (AV.sl 5 (List.map c_api_Node ((v).1)), [Ob.var 48 [AV.sl 4 (List.map c_api_Token (p_l)), AV.int .i64 ((v).2.1), AV.int .i64 ((v).2.2.1), AV.int .i64 ((v).2.2.2.1), AV.int .i64 ((v).2.2.2.2)]])) (fun k s => expr_parser_row_2_L0 n (m_expr_parser_sum n) v3_ops p_l k ((s).1) ((s).2.1) ((s).2.2.1) ((s).2.2.2.1) ((s).2.2.2.2.1) ((s).2.2.2.2.2)) (fun s => rfl) o16 ?_ n (v2_once, (y1).1, (y1).2.1, (y1).2.2.1, (y1).2.2.2.1, (y1).2.2.2.2) (fun _ => 0) _ _ ho16 ?_ (by first | rfl | (simp only [ls, List.map_append, List.map_cons, List.map_nil, List.append_nil, List.length_set, length_copyL] <;> rfl)) (by first | rfl | (simp only [ls, List.map_append, List.map_cons, List.map_nil, List.append_nil, List.length_set, length_copyL] <;> rfl))
  · intro k9 ss a10 K11 cont12 hK13 hcont14 hm hr15
    obtain ⟨s3, s4, s5, s6, s7, s8⟩ := ss
    replace hm : expr_parser_row_2_L0 n (m_expr_parser_sum n) v3_ops p_l (k9 + 1) s3 s4 s5 s6 s7 s8 = some o16 := hm
    rw [expr_parser_row_2_L0] at hm
    conv => lhs; whnf
    refine bif_or2 hm ?_ ?_ <;> clear hm <;> intro hc17 hm
    · simp only [hc17, ls]
      conv => lhs; whnf
      refine bind_some2 hm ?_; clear hm; intro o27 ho27 hm
      refine rounds_sim (σ := (Int × Int)) (τ := Int) (ν := ((List S_api_Node) × Int × Int × Int × Int)) 2 (fun (s18, s19) a21 => stOf 67 [(0, AV.ptr 0 0), (1, AV.func 53 [] []), (2, AV.bool (s3)), (3, AV.sl 1 (List.map encI (v3_ops))), (9, AV.sl 5 (List.map c_api_Node (s4))), (10, AV.int .i64 (s18)), (23, AV.sl 1 (List.map encI (v3_ops))), (24, AV.int .i64 ((((v3_ops).length : Nat) : Int))), (25, AV.int .i64 (s19))]) (fun (s18, s19) a21 => [Ob.var 48 [AV.sl 4 (List.map c_api_Token (p_l)), AV.int .i64 (s5), AV.int .i64 (s6), AV.int .i64 (s7), AV.int .i64 (s8)]]) (fun x36 a35 => stOf 67 [(0, AV.ptr 0 0), (1, AV.func 53 [] []), (2, AV.bool (s3)), (3, AV.sl 1 (List.map encI (v3_ops))), (9, AV.sl 5 (List.map c_api_Node (s4))), (10, AV.int .i64 (x36))]) (fun x36 a35 => [Ob.var 48 [AV.sl 4 (List.map c_api_Token (p_l)), AV.int .i64 (s5), AV.int .i64 (s6), AV.int .i64 (s7), AV.int .i64 (s8)]]) (fun v => (AV.sl 5 (List.map c_api_Node ((v).1)), [Ob.var 48 [AV.sl 4 (List.map c_api_Token (p_l)), AV.int .i64 ((v).2.1), AV.int .i64 ((v).2.2.1), AV.int .i64 ((v).2.2.2.1), AV.int .i64 ((v).2.2.2.2)]])) (fun k s => expr_parser_row_2_L1 n v3_ops p_l s5 s6 s7 s8 k ((s).1) ((s).2)) (fun s => rfl) o27 ?_ n (0, 0) (fun _ => 0) _ _ ho27 ?_ (by first | rfl | (simp only [ls, List.map_append, List.map_cons, List.map_nil, List.append_nil, List.length_set, length_copyL] <;> rfl)) (by first | rfl | (simp only [ls, List.map_append, List.map_cons, List.map_nil, List.append_nil, List.length_set, length_copyL] <;> rfl))
      · intro k20 ss a21 K22 cont23 hK24 hcont25 hm hr26
        obtain ⟨s18, s19⟩ := ss
        replace hm : expr_parser_row_2_L1 n v3_ops p_l s5 s6 s7 s8 (k20 + 1) s18 s19 = some o27 := hm
        rw [expr_parser_row_2_L1] at hm
        conv => lhs; whnf
        refine bif_or2 hm ?_ ?_ <;> clear hm <;> intro hc28 hm
        · simp only [hc28, ls]
          conv => lhs; whnf
          refine bind_some2 hm ?_; clear hm; intro x29 hx29 hm
          refine bif_pos (by first | exact idx_in hx29 | exact idx_in' hx29) ?_
          simp only [idx_nth (f := encI) hx29, ls]
          conv => lhs; whnf
          refine bind_some2 hm ?_; clear hm; intro y30 hy30 hm
          have hk31 : call false 34 [AV.int .i64 (x29)] [] = some (AV.str (y30), []) := (hc _ _ _).trans (ok_expr_sign n x29 y30 hy30)
          try simp only [List.drop_zero, ls]
          first | simp only [hk31] | rewrite [hk31]
          try simp only [ls]
          conv => lhs; whnf
          refine bind_some2 hm ?_; clear hm; intro y32 hy32 hm
          have hk33 : call false 49 [AV.ptr 0 0, AV.str (y30)] [Ob.var 48 [AV.sl 4 (List.map c_api_Token (p_l)), AV.int .i64 (s5), AV.int .i64 (s6), AV.int .i64 (s7), AV.int .i64 (s8)]] = some (AV.bool (y32), [Ob.var 48 [AV.sl 4 (List.map c_api_Token (p_l)), AV.int .i64 (s5), AV.int .i64 (s6), AV.int .i64 (s7), AV.int .i64 (s8)]]) := (hc _ _ _).trans (ok_expr_parser_is n y30 p_l s5 s6 s7 s8 y32 hy32)
          try simp only [List.drop_zero, ls]
          first | simp only [hk33] | rewrite [hk33]
          try simp only [ls]
          conv => lhs; whnf
          refine bif_or2 hm ?_ ?_ <;> clear hm <;> intro hc34 hm
          · simp only [hc34, ls]
            conv => lhs; whnf
            exact cq (hcont25 (x29, IntKind.i64.wrap (s19 + 1)) (fun _ => 0) hm)
          · simp only [hc34, ls]
            conv => lhs; whnf
            exact cq (hcont25 (s18, IntKind.i64.wrap (s19 + 1)) (fun _ => 0) hm)
        · simp only [hc28, ls]
          conv => lhs; whnf
          have hq := Option.some.inj hm; clear hm; subst hq
          exact kq (hr26 (fun _ => 0))
      · cases o27 with
        | ret v =>
          have hq := Option.some.inj hm; clear hm; subst hq
          exact hr15
        | out t =>
          obtain ⟨x36, rfl⟩ : ∃ x, x = t := ⟨_, rfl⟩
          intro a35
          dsimp only at hm
          conv => lhs; whnf
          refine bif_or2 hm ?_ ?_ <;> clear hm <;> intro hc37 hm
          · simp only [hc37, ls]
            conv => lhs; whnf
            have hq := Option.some.inj hm; clear hm; subst hq
            exact kq (hr15 (fun _ => 0))
          · simp only [hc37, ls]
            conv => lhs; whnf
            refine bind_some2 hm ?_; clear hm; intro x38 hx38 hm
            refine bif_pos (by first | exact idx_in hx38 | exact idx_in' hx38) ?_
            simp only [idx_nth (f := c_api_Token) hx38, ls]
            conv => lhs; whnf
            refine bind_some2 hm ?_; clear hm; intro y39 hy39 hm
            have hk40 : call false 53 [AV.ptr 0 0] [Ob.var 48 [AV.sl 4 (List.map c_api_Token (p_l)), AV.int .i64 (IntKind.i64.wrap (s5 + 1)), AV.int .i64 (s6), AV.int .i64 (s7), AV.int .i64 (s8)]] = some (AV.sl 5 (List.map c_api_Node ((y39).1)), [Ob.var 48 [AV.sl 4 (List.map c_api_Token (p_l)), AV.int .i64 ((y39).2.1), AV.int .i64 ((y39).2.2.1), AV.int .i64 ((y39).2.2.2.1), AV.int .i64 ((y39).2.2.2.2)]]) := (hc _ _ _).trans (ih_expr_parser_sum p_l (IntKind.i64.wrap (s5 + 1)) s6 s7 s8 y39 hy39)
            try simp only [List.drop_zero, ls]
            first | simp only [hk40] | rewrite [hk40]
            try simp only [ls]
            conv => lhs; whnf
            refine bind_some2 hm ?_; clear hm; intro y41 hy41 hm
            have hk42 : call false 50 [AV.agg [AV.int .i64 (x36), AV.int .i64 (0), AV.str (([] : List UInt8)), AV.str (([] : List UInt8)), AV.int .i64 (x38.f_At)], AV.sl 1 [[AV.sl 5 (List.map c_api_Node (s4))], [AV.sl 5 (List.map c_api_Node ((y39).1))]]] [] = some (AV.sl 5 (List.map c_api_Node (y41)), []) := (hc _ _ _).trans (ok_expr_node n (⟨x36, 0, ([] : List UInt8), ([] : List UInt8), x38.f_At⟩ : S_api_Node) ([s4, (y39).1] : List (List S_api_Node)) y41 hy41)
            try simp only [List.length_nil, List.map_nil] at hk42
            try simp only [List.length_nil, List.map_nil]
            try simp only [List.drop_zero, ls]
            first | simp only [hk42] | rewrite [hk42]
            try simp only [ls]
            conv => lhs; whnf
            refine bif_or2 hm ?_ ?_ <;> clear hm <;> intro hc43 hm
            · simp only [hc43, ls]
              conv => lhs; whnf
              have hq := Option.some.inj hm; clear hm; subst hq
              exact kq (hr15 (fun _ => 0))
            · simp only [hc43, ls]
              conv => lhs; whnf
              exact cq (hcont14 (false, y41, (y39).2.1, (y39).2.2.1, (y39).2.2.2.1, (y39).2.2.2.2) (fun _ => 0) hm)
    · simp only [hc17, ls]
      conv => lhs; whnf
      have hq := Option.some.inj hm; clear hm; subst hq
      exact kq (hr15 (fun _ => 0))
  · cases o16 with
    | ret v =>
      have hq := Option.some.inj hm; clear hm; subst hq
      rfl
    | out t =>
      obtain ⟨x46, x47, x48, x49, x50⟩ := t
      intro a45
      dsimp only at hm
      conv => lhs; whnf
      have hq := Option.some.inj hm; clear hm; subst hq
      try simp only [ls]
      exact fq (y := some (AV.sl 5 (List.map c_api_Node (x46)), [Ob.var 48 [AV.sl 4 (List.map c_api_Token (p_l)), AV.int .i64 (x47), AV.int .i64 (x48), AV.int .i64 (x49), AV.int .i64 (x50)]]))
set_option maxHeartbeats 4000000 in
theorem st_expr_parser_row_3 (n : Nat) (ih_expr_parser_any : OK_expr_parser_any n) (ih_expr_parser_both : OK_expr_parser_both n) (ih_expr_parser_compared : OK_expr_parser_compared n) (ih_expr_parser_inner : OK_expr_parser_inner n) (ih_expr_parser_inner_1 : OK_expr_parser_inner_1 n) (ih_expr_parser_product : OK_expr_parser_product n) (ih_expr_parser_row : OK_expr_parser_row n) (ih_expr_parser_row_1 : OK_expr_parser_row_1 n) (ih_expr_parser_row_2 : OK_expr_parser_row_2 n) (ih_expr_parser_row_3 : OK_expr_parser_row_3 n) (ih_expr_parser_row_4 : OK_expr_parser_row_4 n) (ih_expr_parser_single : OK_expr_parser_single n) (ih_expr_parser_sum : OK_expr_parser_sum n) : OK_expr_parser_row_3 (n + 1) := by
  intro v2_once v3_ops p_l p_i p_in p_e p_at r hm
  rw [m_expr_parser_row_3] at hm
  refine callN_eq' Try.func40 (by rfl) rfl rfl (Nat.le_of_ble_eq_true rfl) ?_
  intro call hc
  conv => lhs; whnf
  refine bind_some2 hm ?_; clear hm; intro y1 hy1 hm
  have hk2 : call false 54 [AV.ptr 0 0] [Ob.var 48 [AV.sl 4 (List.map c_api_Token (p_l)), AV.int .i64 (p_i), AV.int .i64 (p_in), AV.int .i64 (p_e), AV.int .i64 (p_at)]] = some (AV.sl 5 (List.map c_api_Node ((y1).1)), [Ob.var 48 [AV.sl 4 (List.map c_api_Token (p_l)), AV.int .i64 ((y1).2.1), AV.int .i64 ((y1).2.2.1), AV.int .i64 ((y1).2.2.2.1), AV.int .i64 ((y1).2.2.2.2)]]) := (hc _ _ _).trans (ih_expr_parser_product p_l p_i p_in p_e p_at y1 hy1)
  try simp only [List.drop_zero, ls]
  first | simp only [hk2] | rewrite [hk2]
  try simp only [ls]
  conv => lhs; whnf
  refine bind_some2 hm ?_; clear hm; intro o16 ho16 hm
  refine rounds_sim (σ := (Bool × (List S_api_Node) × Int × Int × Int × Int)) (τ := ((List S_api_Node) × Int × Int × Int × Int)) (ν := ((List S_api_Node) × Int × Int × Int × Int)) 0 (fun (s3, s4, s5, s6, s7, s8) a10 => stOf 67 [(0, AV.ptr 0 0), (1, AV.func 54 [] []), (2, AV.bool (s3)), (3, AV.sl 1 (List.map encI (v3_ops))), (9, AV.sl 5 (List.map c_api_Node (s4)))]) (fun (s3, s4, s5, s6, s7, s8) a10 => [Ob.var 48 [AV.sl 4 (List.map c_api_Token (p_l)), AV.int .i64 (s5), AV.int .i64 (s6), AV.int .i64 (s7), AV.int .i64 (s8)]]) (fun (x46, x47, x48, x49, x50) a45 => stOf 67 [(9, AV.sl 5 (List.map c_api_Node (x46)))]) (fun (x46, x47, x48, x49, x50) a45 => [Ob.var 48 [AV.sl 4 (List.map c_api_Token (p_l)), AV.int .i64 (x47), AV.int .i64 (x48), AV.int .i64 (x49), AV.int .i64 (x50)]]) (fun v => (AV.sl 5 (List.map c_api_Node ((v).1)), [Ob.var 48 [AV.sl 4 (List.map c_api_Token (p_l)), AV.int .i64 ((v).2.1), AV.int .i64 ((v).2.2.1), AV.int .i64 ((v).2.2.2.1), AV.int .i64 ((v).2.2.2.2)]])) (fun k s => expr_parser_row_3_L0 n (m_expr_parser_product n) v3_ops p_l k ((s).1) ((s).2.1) ((s).2.2.1) ((s).2.2.2.1) ((s).2.2.2.2.1) ((s).2.2.2.2.2)) (fun s => rfl) o16 ?_ n (v2_once, (y1).1, (y1).2.1, (y1).2.2.1, (y1).2.2.2.1, (y1).2.2.2.2) (fun _ => 0) _ _ ho16 ?_ (by first | rfl | (simp only [ls, List.map_append, List.map_cons, List.map_nil, List.append_nil, List.length_set, length_copyL] <;> rfl)) (by first | rfl | (simp only [ls, List.map_append, List.map_cons, List.map_nil, List.append_nil, List.length_set, length_copyL] <;> rfl))
  · intro k9 ss a10 K11 cont12 hK13 hcont14 hm hr15
    obtain ⟨s3, s4, s5, s6, s7, s8⟩ := ss
    replace hm : expr_parser_row_3_L0 n (m_expr_parser_product n) v3_ops p_l (k9 + 1) s3 s4 s5 s6 s7 s8 = some o16 := hm
    rw [expr_parser_row_3_L0] at hm
    conv => lhs; whnf
    refine bif_or2 hm ?_ ?_ <;> clear hm <;> intro hc17 hm
    · simp only [hc17, ls]
      conv => lhs; whnf
      refine bind_some2 hm ?_; clear hm; intro o27 ho27 hm
      refine rounds_sim (σ := (Int × Int)) (τ := Int) (ν := ((List S_api_Node) × Int × Int × Int × Int)) 2 (fun (s18, s19) a21 => stOf 67 [(0, AV.ptr 0 0), (1, AV.func 54 [] []), (2, AV.bool (s3)), (3, AV.sl 1 (List.map encI (v3_ops))), (9, AV.sl 5 (List.map c_api_Node (s4))), (10, AV.int .i64 (s18)), (23, AV.sl 1 (List.map encI (v3_ops))), (24, AV.int .i64 ((((v3_ops).length : Nat) : Int))), (25, AV.int .i64 (s19))]) (fun (s18, s19) a21 => [Ob.var 48 [AV.sl 4 (List.map c_api_Token (p_l)), AV.int .i64 (s5), AV.int .i64 (s6), AV.int .i64 (s7), AV.int .i64 (s8)]]) (fun x36 a35 => stOf 67 [(0, AV.ptr 0 0), (1, AV.func 54 [] []), (2, AV.bool (s3)), (3, AV.sl 1 (List.map encI (v3_ops))), (9, AV.sl 5 (List.map c_api_Node (s4))), (10, AV.int .i64 (x36))]) (fun x36 a35 => [Ob.var 48 [AV.sl 4 (List.map c_api_Token (p_l)), AV.int .i64 (s5), AV.int .i64 (s6), AV.int .i64 (s7), AV.int .i64 (s8)]]) (fun v => (AV.sl 5 (List.map c_api_Node ((v).1)), [Ob.var 48 [AV.sl 4 (List.map c_api_Token (p_l)), AV.int .i64 ((v).2.1), AV.int .i64 ((v).2.2.1), AV.int .i64 ((v).2.2.2.1), AV.int .i64 ((v).2.2.2.2)]])) (fun k s => expr_parser_row_3_L1 n v3_ops p_l s5 s6 s7 s8 k ((s).1) ((s).2)) (fun s => rfl) o27 ?_ n (0, 0) (fun _ => 0) _ _ ho27 ?_ (by first | rfl | (simp only [ls, List.map_append, List.map_cons, List.map_nil, List.append_nil, List.length_set, length_copyL] <;> rfl)) (by first | rfl | (simp only [ls, List.map_append, List.map_cons, List.map_nil, List.append_nil, List.length_set, length_copyL] <;> rfl))
      · intro k20 ss a21 K22 cont23 hK24 hcont25 hm hr26
        obtain ⟨s18, s19⟩ := ss
        replace hm : expr_parser_row_3_L1 n v3_ops p_l s5 s6 s7 s8 (k20 + 1) s18 s19 = some o27 := hm
        rw [expr_parser_row_3_L1] at hm
        conv => lhs; whnf
        refine bif_or2 hm ?_ ?_ <;> clear hm <;> intro hc28 hm
        · simp only [hc28, ls]
          conv => lhs; whnf
          refine bind_some2 hm ?_; clear hm; intro x29 hx29 hm
          refine bif_pos (by first | exact idx_in hx29 | exact idx_in' hx29) ?_
          simp only [idx_nth (f := encI) hx29, ls]
          conv => lhs; whnf
          refine bind_some2 hm ?_; clear hm; intro y30 hy30 hm
          have hk31 : call false 34 [AV.int .i64 (x29)] [] = some (AV.str (y30), []) := (hc _ _ _).trans (ok_expr_sign n x29 y30 hy30)
          try simp only [List.drop_zero, ls]
          first | simp only [hk31] | rewrite [hk31]
          try simp only [ls]
          conv => lhs; whnf
          refine bind_some2 hm ?_; clear hm; intro y32 hy32 hm
          have hk33 : call false 49 [AV.ptr 0 0, AV.str (y30)] [Ob.var 48 [AV.sl 4 (List.map c_api_Token (p_l)), AV.int .i64 (s5), AV.int .i64 (s6), AV.int .i64 (s7), AV.int .i64 (s8)]] = some (AV.bool (y32), [Ob.var 48 [AV.sl 4 (List.map c_api_Token (p_l)), AV.int .i64 (s5), AV.int .i64 (s6), AV.int .i64 (s7), AV.int .i64 (s8)]]) := (hc _ _ _).trans (ok_expr_parser_is n y30 p_l s5 s6 s7 s8 y32 hy32)
          try simp only [List.drop_zero, ls]
          first | simp only [hk33] | rewrite [hk33]
          try simp only [ls]
          conv => lhs; whnf
          refine bif_or2 hm ?_ ?_ <;> clear hm <;> intro hc34 hm
          · simp only [hc34, ls]
            conv => lhs; whnf
            exact cq (hcont25 (x29, IntKind.i64.wrap (s19 + 1)) (fun _ => 0) hm)
          · simp only [hc34, ls]
            conv => lhs; whnf
            exact cq (hcont25 (s18, IntKind.i64.wrap (s19 + 1)) (fun _ => 0) hm)
        · simp only [hc28, ls]
          conv => lhs; whnf
          have hq := Option.some.inj hm; clear hm; subst hq
          exact kq (hr26 (fun _ => 0))
      · cases o27 with
        | ret v =>
          have hq := Option.some.inj hm; clear hm; subst hq
          exact hr15
        | out t =>
          obtain ⟨x36, rfl⟩ : ∃ x, x = t := ⟨_, rfl⟩
          intro a35
          dsimp only at hm
          conv => lhs; whnf
          refine bif_or2 hm ?_ ?_ <;> clear hm <;> intro hc37 hm
          · simp only [hc37, ls]
            conv => lhs; whnf
            have hq := Option.some.inj hm; clear hm; subst hq
            exact kq (hr15 (fun _ => 0))
          · simp only [hc37, ls]
            conv => lhs; whnf
            refine bind_some2 hm ?_; clear hm; intro x38 hx38 hm
            refine bif_pos (by first | exact idx_in hx38 | exact idx_in' hx38) ?_
            simp only [idx_nth (f := c_api_Token) hx38, ls]
            conv => lhs; whnf
            refine bind_some2 hm ?_; clear hm; intro y39 hy39 hm
            have hk40 : call false 54 [AV.ptr 0 0] [Ob.var 48 [AV.sl 4 (List.map c_api_Token (p_l)), AV.int .i64 (IntKind.i64.wrap (s5 + 1)), AV.int .i64 (s6), AV.int .i64 (s7), AV.int .i64 (s8)]] = some (AV.sl 5 (List.map c_api_Node ((y39).1)), [Ob.var 48 [AV.sl 4 (List.map c_api_Token (p_l)), AV.int .i64 ((y39).2.1), AV.int .i64 ((y39).2.2.1), AV.int .i64 ((y39).2.2.2.1), AV.int .i64 ((y39).2.2.2.2)]]) := (hc _ _ _).trans (ih_expr_parser_product p_l (IntKind.i64.wrap (s5 + 1)) s6 s7 s8 y39 hy39)
            try simp only [List.drop_zero, ls]
            first | simp only [hk40] | rewrite [hk40]
            try simp only [ls]
            conv => lhs; whnf
            refine bind_some2 hm ?_; clear hm; intro y41 hy41 hm
            have hk42 : call false 50 [AV.agg [AV.int .i64 (x36), AV.int .i64 (0), AV.str (([] : List UInt8)), AV.str (([] : List UInt8)), AV.int .i64 (x38.f_At)], AV.sl 1 [[AV.sl 5 (List.map c_api_Node (s4))], [AV.sl 5 (List.map c_api_Node ((y39).1))]]] [] = some (AV.sl 5 (List.map c_api_Node (y41)), []) := (hc _ _ _).trans (ok_expr_node n (⟨x36, 0, ([] : List UInt8), ([] : List UInt8), x38.f_At⟩ : S_api_Node) ([s4, (y39).1] : List (List S_api_Node)) y41 hy41)
            try simp only [List.length_nil, List.map_nil] at hk42
            try simp only [List.length_nil, List.map_nil]
            try simp only [List.drop_zero, ls]
            first | simp only [hk42] | rewrite [hk42]
            try simp only [ls]
            conv => lhs; whnf
            refine bif_or2 hm ?_ ?_ <;> clear hm <;> intro hc43 hm
            · simp only [hc43, ls]
              conv => lhs; whnf
              have hq := Option.some.inj hm; clear hm; subst hq
              exact kq (hr15 (fun _ => 0))
            · simp only [hc43, ls]
              conv => lhs; whnf
              exact cq (hcont14 (false, y41, (y39).2.1, (y39).2.2.1, (y39).2.2.2.1, (y39).2.2.2.2) (fun _ => 0) hm)
    · simp only [hc17, ls]
      conv => lhs; whnf
      have hq := Option.some.inj hm; clear hm; subst hq
      exact kq (hr15 (fun _ => 0))
  · cases o16 with
    | ret v =>
      have hq := Option.some.inj hm; clear hm; subst hq
      rfl
    | out t =>
      obtain ⟨x46, x47, x48, x49, x50⟩ := t
      intro a45
      dsimp only at hm
      conv => lhs; whnf
      have hq := Option.some.inj hm; clear hm; subst hq
      try simp only [ls]
      exact fq (y := some (AV.sl 5 (List.map c_api_Node (x46)), [Ob.var 48 [AV.sl 4 (List.map c_api_Token (p_l)), AV.int .i64 (x47), AV.int .i64 (x48), AV.int .i64 (x49), AV.int .i64 (x50)]]))
set_option maxHeartbeats 4000000 in
theorem st_expr_parser_row_4 (n : Nat) (ih_expr_parser_any : OK_expr_parser_any n) (ih_expr_parser_both : OK_expr_parser_both n) (ih_expr_parser_compared : OK_expr_parser_compared n) (ih_expr_parser_inner : OK_expr_parser_inner n) (ih_expr_parser_inner_1 : OK_expr_parser_inner_1 n) (ih_expr_parser_product : OK_expr_parser_product n) (ih_expr_parser_row : OK_expr_parser_row n) (ih_expr_parser_row_1 : OK_expr_parser_row_1 n) (ih_expr_parser_row_2 : OK_expr_parser_row_2 n) (ih_expr_parser_row_3 : OK_expr_parser_row_3 n) (ih_expr_parser_row_4 : OK_expr_parser_row_4 n) (ih_expr_parser_single : OK_expr_parser_single n) (ih_expr_parser_sum : OK_expr_parser_sum n) : OK_expr_parser_row_4 (n + 1) := by
  intro v2_once v3_ops p_l p_i p_in p_e p_at r hm
  rw [m_expr_parser_row_4] at hm
  refine callN_eq' Try.func40 (by rfl) rfl rfl (Nat.le_of_ble_eq_true rfl) ?_
  intro call hc
  conv => lhs; whnf
  refine bind_some2 hm ?_; clear hm; intro y1 hy1 hm
  have hk2 : call false 55 [AV.ptr 0 0] [Ob.var 48 [AV.sl 4 (List.map c_api_Token (p_l)), AV.int .i64 (p_i), AV.int .i64 (p_in), AV.int .i64 (p_e), AV.int .i64 (p_at)]] = some (AV.sl 5 (List.map c_api_Node ((y1).1)), [Ob.var 48 [AV.sl 4 (List.map c_api_Token (p_l)), AV.int .i64 ((y1).2.1), AV.int .i64 ((y1).2.2.1), AV.int .i64 ((y1).2.2.2.1), AV.int .i64 ((y1).2.2.2.2)]]) := (hc _ _ _).trans (ih_expr_parser_single p_l p_i p_in p_e p_at y1 hy1)
  try simp only [List.drop_zero, ls]
  first | simp only [hk2] | rewrite [hk2]
  try simp only [ls]
  conv => lhs; whnf
  refine bind_some2 hm ?_; clear hm; intro o16 ho16 hm
  refine rounds_sim (σ := (Bool × (List S_api_Node) × Int × Int × Int × Int)) (τ := ((List S_api_Node) × Int × Int × Int × Int)) (ν := ((List S_api_Node) × Int × Int × Int × Int)) 0 (fun (s3, s4, s5, s6, s7, s8) a10 => stOf 67 [(0, AV.ptr 0 0), (1, AV.func 55 [] []), (2, AV.bool (s3)), (3, AV.sl 1 (List.map encI (v3_ops))), (9, AV.sl 5 (List.map c_api_Node (s4)))]) (fun (s3, s4, s5, s6, s7, s8) a10 => [Ob.var 48 [AV.sl 4 (List.map c_api_Token (p_l)), AV.int .i64 (s5), AV.int .i64 (s6), AV.int .i64 (s7), AV.int .i64 (s8)]]) (fun (x46, x47, x48, x49, x50) a45 => stOf 67 [(9, AV.sl 5 (List.map c_api_Node (x46)))]) (fun (x46, x47, x48, x49, x50) a45 => [Ob.var 48 [AV.sl 4 (List.map c_api_Token (p_l)), AV.int .i64 (x47), AV.int .i64 (x48), AV.int .i64 (x49), AV.int .i64 (x50)]]) (fun v => (AV.sl 5 (List.map c_api_Node ((v).1)), [Ob.var 48 [AV.sl 4 (List.map c_api_Token (p_l)), AV.int .i64 ((v).2.1), AV.int .i64 ((v).2.2.1), AV.int .i64 ((v).2.2.2.1), AV.int .i64 ((v).2.2.2.2)]])) (fun k s => expr_parser_row_4_L0 n (m_expr_parser_single n) v3_ops p_l k ((s).1) ((s).2.1) ((s).2.2.1) ((s).2.2.2.1) ((s).2.2.2.2.1) ((s).2.2.2.2.2)) (fun s => rfl) o16 ?_ n (v2_once, (y1).1, (y1).2.1, (y1).2.2.1, (y1).2.2.2.1, (y1).2.2.2.2) (fun _ => 0) _ _ ho16 ?_ (by first | rfl | (simp only [ls, List.map_append, List.map_cons, List.map_nil, List.append_nil, List.length_set, length_copyL] <;> rfl)) (by first | rfl | (simp only [ls, List.map_append, List.map_cons, List.map_nil, List.append_nil, List.length_set, length_copyL] <;> rfl))
  · intro k9 ss a10 K11 cont12 hK13 hcont14 hm hr15
    obtain ⟨s3, s4, s5, s6, s7, s8⟩ := ss
    replace hm : expr_parser_row_4_L0 n (m_expr_parser_single n) v3_ops p_l (k9 + 1) s3 s4 s5 s6 s7 s8 = some o16 := hm
    rw [expr_parser_row_4_L0] at hm
    conv => lhs; whnf
    refine bif_or2 hm ?_ ?_ <;> clear hm <;> intro hc17 hm
    · simp only [hc17, ls]
      conv => lhs; whnf
      refine bind_some2 hm ?_; clear hm; intro o27 ho27 hm
      refine rounds_sim (σ := (Int × Int)) (τ := Int) (ν := ((List S_api_Node) × Int × Int × Int × Int)) 2 (fun (s18, s19) a21 => stOf 67 [(0, AV.ptr 0 0), (1, AV.func 55 [] []), (2, AV.bool (s3)), (3, AV.sl 1 (List.map encI (v3_ops))), (9, AV.sl 5 (List.map c_api_Node (s4))), (10, AV.int .i64 (s18)), (23, AV.sl 1 (List.map encI (v3_ops))), (24, AV.int .i64 ((((v3_ops).length : Nat) : Int))), (25, AV.int .i64 (s19))]) (fun (s18, s19) a21 => [Ob.var 48 [AV.sl 4 (List.map c_api_Token (p_l)), AV.int .i64 (s5), AV.int .i64 (s6), AV.int .i64 (s7), AV.int .i64 (s8)]]) (fun x36 a35 => stOf 67 [(0, AV.ptr 0 0), (1, AV.func 55 [] []), (2, AV.bool (s3)), (3, AV.sl 1 (List.map encI (v3_ops))), (9, AV.sl 5 (List.map c_api_Node (s4))), (10, AV.int .i64 (x36))]) (fun x36 a35 => [Ob.var 48 [AV.sl 4 (List.map c_api_Token (p_l)), AV.int .i64 (s5), AV.int .i64 (s6), AV.int .i64 (s7), AV.int .i64 (s8)]]) (fun v => (AV.sl 5 (List.map c_api_Node ((v).1)), [Ob.var 48 [AV.sl 4 (List.map c_api_Token (p_l)), AV.int .i64 ((v).2.1), AV.int .i64 ((v).2.2.1), AV.int .i64 ((v).2.2.2.1), AV.int .i64 ((v).2.2.2.2)]])) (fun k s => expr_parser_row_4_L1 n v3_ops p_l s5 s6 s7 s8 k ((s).1) ((s).2)) (fun s => rfl) o27 ?_ n (0, 0) (fun _ => 0) _ _ ho27 ?_ (by first | rfl | (simp only [ls, List.map_append, List.map_cons, List.map_nil, List.append_nil, List.length_set, length_copyL] <;> rfl)) (by first | rfl | (simp only [ls, List.map_append, List.map_cons, List.map_nil, List.append_nil, List.length_set, length_copyL] <;> rfl))
      · intro k20 ss a21 K22 cont23 hK24 hcont25 hm hr26
        obtain ⟨s18, s19⟩ := ss
        replace hm : expr_parser_row_4_L1 n v3_ops p_l s5 s6 s7 s8 (k20 + 1) s18 s19 = some o27 := hm
        rw [expr_parser_row_4_L1] at hm
        conv => lhs; whnf
        refine bif_or2 hm ?_ ?_ <;> clear hm <;> intro hc28 hm
        · simp only [hc28, ls]
          conv => lhs; whnf
          refine bind_some2 hm ?_; clear hm; intro x29 hx29 hm
          refine bif_pos (by first | exact idx_in hx29 | exact idx_in' hx29) ?_
          simp only [idx_nth (f := encI) hx29, ls]
          conv => lhs; whnf
          refine bind_some2 hm ?_; clear hm; intro y30 hy30 hm
          have hk31 : call false 34 [AV.int .i64 (x29)] [] = some (AV.str (y30), []) := (hc _ _ _).trans (ok_expr_sign n x29 y30 hy30)
          try simp only [List.drop_zero, ls]
          first | simp only [hk31] | rewrite [hk31]
          try simp only [ls]
          conv => lhs; whnf
          refine bind_some2 hm ?_; clear hm; intro y32 hy32 hm
          have hk33 : call false 49 [AV.ptr 0 0, AV.str (y30)] [Ob.var 48 [AV.sl 4 (List.map c_api_Token (p_l)), AV.int .i64 (s5), AV.int .i64 (s6), AV.int .i64 (s7), AV.int .i64 (s8)]] = some (AV.bool (y32), [Ob.var 48 [AV.sl 4 (List.map c_api_Token (p_l)), AV.int .i64 (s5), AV.int .i64 (s6), AV.int .i64 (s7), AV.int .i64 (s8)]]) := (hc _ _ _).trans (ok_expr_parser_is n y30 p_l s5 s6 s7 s8 y32 hy32)
          try simp only [List.drop_zero, ls]
          first | simp only [hk33] | rewrite [hk33]
          try simp only [ls]
          conv => lhs; whnf
          refine bif_or2 hm ?_ ?_ <;> clear hm <;> intro hc34 hm
          · simp only [hc34, ls]
            conv => lhs; whnf
            exact cq (hcont25 (x29, IntKind.i64.wrap (s19 + 1)) (fun _ => 0) hm)
          · simp only [hc34, ls]
            conv => lhs; whnf
            exact cq (hcont25 (s18, IntKind.i64.wrap (s19 + 1)) (fun _ => 0) hm)
        · simp only [hc28, ls]
          conv => lhs; whnf
          have hq := Option.some.inj hm; clear hm; subst hq
          exact kq (hr26 (fun _ => 0))
      · cases o27 with
        | ret v =>
          have hq := Option.some.inj hm; clear hm; subst hq
          exact hr15
        | out t =>
          obtain ⟨x36, rfl⟩ : ∃ x, x = t := ⟨_, rfl⟩
          intro a35
          dsimp only at hm
          conv => lhs; whnf
          refine bif_or2 hm ?_ ?_ <;> clear hm <;> intro hc37 hm
          · simp only [hc37, ls]
            conv => lhs; whnf
            have hq := Option.some.inj hm; clear hm; subst hq
            exact kq (hr15 (fun _ => 0))
          · simp only [hc37, ls]
            conv => lhs; whnf
            refine bind_some2 hm ?_; clear hm; intro x38 hx38 hm
            refine bif_pos (by first | exact idx_in hx38 | exact idx_in' hx38) ?_
            simp only [idx_nth (f := c_api_Token) hx38, ls]
            conv => lhs; whnf
            refine bind_some2 hm ?_; clear hm; intro y39 hy39 hm
            have hk40 : call false 55 [AV.ptr 0 0] [Ob.var 48 [AV.sl 4 (List.map c_api_Token (p_l)), AV.int .i64 (IntKind.i64.wrap (s5 + 1)), AV.int .i64 (s6), AV.int .i64 (s7), AV.int .i64 (s8)]] = some (AV.sl 5 (List.map c_api_Node ((y39).1)), [Ob.var 48 [AV.sl 4 (List.map c_api_Token (p_l)), AV.int .i64 ((y39).2.1), AV.int .i64 ((y39).2.2.1), AV.int .i64 ((y39).2.2.2.1), AV.int .i64 ((y39).2.2.2.2)]]) := (hc _ _ _).trans (ih_expr_parser_single p_l (IntKind.i64.wrap (s5 + 1)) s6 s7 s8 y39 hy39)
            try simp only [List.drop_zero, ls]
            first | simp only [hk40] | rewrite [hk40]
            try simp only [ls]
            conv => lhs; whnf
            refine bind_some2 hm ?_; clear hm; intro y41 hy41 hm
            have hk42 : call false 50 [AV.agg [AV.int .i64 (x36), AV.int .i64 (0), AV.str (([] : List UInt8)), AV.str (([] : List UInt8)), AV.int .i64 (x38.f_At)], AV.sl 1 [[AV.sl 5 (List.map c_api_Node (s4))], [AV.sl 5 (List.map c_api_Node ((y39).1))]]] [] = some (AV.sl 5 (List.map c_api_Node (y41)), []) := (hc _ _ _).trans (ok_expr_node n (⟨x36, 0, ([] : List UInt8), ([] : List UInt8), x38.f_At⟩ : S_api_Node) ([s4, (y39).1] : List (List S_api_Node)) y41 hy41)
            try simp only [List.length_nil, List.map_nil] at hk42
            try simp only [List.length_nil, List.map_nil]
            try simp only [List.drop_zero, ls]
            first | simp only [hk42] | rewrite [hk42]
            try simp only [ls]
            conv => lhs; whnf
            refine bif_or2 hm ?_ ?_ <;> clear hm <;> intro hc43 hm
            · simp only [hc43, ls]
              conv => lhs; whnf
              have hq := Option.some.inj hm; clear hm; subst hq
              exact kq (hr15 (fun _ => 0))
            · simp only [hc43, ls]
              conv => lhs; whnf
              exact cq (hcont14 (false, y41, (y39).2.1, (y39).2.2.1, (y39).2.2.2.1, (y39).2.2.2.2) (fun _ => 0) hm)
    · simp only [hc17, ls]
      conv => lhs; whnf
      have hq := Option.some.inj hm; clear hm; subst hq
      exact kq (hr15 (fun _ => 0))
  · cases o16 with
    | ret v =>
      have hq := Option.some.inj hm; clear hm; subst hq
      rfl
    | out t =>
      obtain ⟨x46, x47, x48, x49, x50⟩ := t
      intro a45
      dsimp only at hm
      conv => lhs; whnf
      have hq := Option.some.inj hm; clear hm; subst hq
      try simp only [ls]
      exact fq (y := some (AV.sl 5 (List.map c_api_Node (x46)), [Ob.var 48 [AV.sl 4 (List.map c_api_Token (p_l)), AV.int .i64 (x47), AV.int .i64 (x48), AV.int .i64 (x49), AV.int .i64 (x50)]]))
set_option maxHeartbeats 4000000 in
theorem st_expr_parser_single (n : Nat) (ih_expr_parser_any : OK_expr_parser_any n) (ih_expr_parser_both : OK_expr_parser_both n) (ih_expr_parser_compared : OK_expr_parser_compared n) (ih_expr_parser_inner : OK_expr_parser_inner n) (ih_expr_parser_inner_1 : OK_expr_parser_inner_1 n) (ih_expr_parser_product : OK_expr_parser_product n) (ih_expr_parser_row : OK_expr_parser_row n) (ih_expr_parser_row_1 : OK_expr_parser_row_1 n) (ih_expr_parser_row_2 : OK_expr_parser_row_2 n) (ih_expr_parser_row_3 : OK_expr_parser_row_3 n) (ih_expr_parser_row_4 : OK_expr_parser_row_4 n) (ih_expr_parser_single : OK_expr_parser_single n) (ih_expr_parser_sum : OK_expr_parser_sum n) : OK_expr_parser_single (n + 1) := by
  intro p_l p_i p_in p_e p_at r hm
  rw [m_expr_parser_single] at hm
  refine callN_eq' Try.func55 (by rfl) rfl rfl (Nat.le_of_ble_eq_true rfl) ?_
  intro call hc
  conv => lhs; whnf
  refine bif_or2 hm ?_ ?_ <;> clear hm <;> intro hc1 hm
  · simp only [hc1, ls]
    conv => lhs; whnf
    have hq := Option.some.inj hm; clear hm; subst hq
    try simp only [ls]
    exact fq (y := some (AV.sl 5 [], [Ob.var 48 [AV.sl 4 (List.map c_api_Token (p_l)), AV.int .i64 (p_i), AV.int .i64 (p_in), AV.int .i64 (p_e), AV.int .i64 (p_at)]]))
  · simp only [hc1, ls]
    conv => lhs; whnf
    refine bind_some2 hm ?_; clear hm; intro y2 hy2 hm
    have hk3 : call false 49 [AV.ptr 0 0, AV.str (([33] : List UInt8))] [Ob.var 48 [AV.sl 4 (List.map c_api_Token (p_l)), AV.int .i64 (p_i), AV.int .i64 (p_in), AV.int .i64 (p_e), AV.int .i64 (p_at)]] = some (AV.bool (y2), [Ob.var 48 [AV.sl 4 (List.map c_api_Token (p_l)), AV.int .i64 (p_i), AV.int .i64 (p_in), AV.int .i64 (p_e), AV.int .i64 (p_at)]]) := (hc _ _ _).trans (ok_expr_parser_is n ([33] : List UInt8) p_l p_i p_in p_e p_at y2 hy2)
    try simp only [List.drop_zero, ls]
    first | simp only [hk3] | rewrite [hk3]
    try simp only [ls]
    conv => lhs; whnf
    refine bif_or2 hm ?_ ?_ <;> clear hm <;> intro hc4 hm
    · simp only [hc4, ls]
      conv => lhs; whnf
      refine bind_some2 hm ?_; clear hm; intro x5 hx5 hm
      refine bif_pos (by first | exact idx_in hx5 | exact idx_in' hx5) ?_
      simp only [idx_nth (f := c_api_Token) hx5, ls]
      conv => lhs; whnf
      refine bind_some2 hm ?_; clear hm; intro y6 hy6 hm
      have hk7 : call false 56 [AV.ptr 0 0, AV.func 55 [] []] [Ob.var 48 [AV.sl 4 (List.map c_api_Token (p_l)), AV.int .i64 (p_i), AV.int .i64 (p_in), AV.int .i64 (p_e), AV.int .i64 (p_at)]] = some (AV.sl 5 (List.map c_api_Node ((y6).1)), [Ob.var 48 [AV.sl 4 (List.map c_api_Token (p_l)), AV.int .i64 ((y6).2.1), AV.int .i64 ((y6).2.2.1), AV.int .i64 ((y6).2.2.2.1), AV.int .i64 ((y6).2.2.2.2)]]) := (hc _ _ _).trans (ih_expr_parser_inner p_l p_i p_in p_e p_at y6 hy6)
      try simp only [List.drop_zero, ls]
      first | simp only [hk7] | rewrite [hk7]
      try simp only [ls]
      conv => lhs; whnf
      refine bind_some2 hm ?_; clear hm; intro y8 hy8 hm
      have hk9 : call false 50 [AV.agg [AV.int .i64 (5), AV.int .i64 (0), AV.str (([] : List UInt8)), AV.str (([] : List UInt8)), AV.int .i64 (x5.f_At)], AV.sl 1 [[AV.sl 5 (List.map c_api_Node ((y6).1))]]] [] = some (AV.sl 5 (List.map c_api_Node (y8)), []) := (hc _ _ _).trans (ok_expr_node n (⟨5, 0, ([] : List UInt8), ([] : List UInt8), x5.f_At⟩ : S_api_Node) ([(y6).1] : List (List S_api_Node)) y8 hy8)
      try simp only [List.length_nil, List.map_nil] at hk9
      try simp only [List.length_nil, List.map_nil]
      try simp only [List.drop_zero, ls]
      first | simp only [hk9] | rewrite [hk9]
      try simp only [ls]
      conv => lhs; whnf
      have hq := Option.some.inj hm; clear hm; subst hq
      try simp only [ls]
      exact fq (y := some (AV.sl 5 (List.map c_api_Node (y8)), [Ob.var 48 [AV.sl 4 (List.map c_api_Token (p_l)), AV.int .i64 ((y6).2.1), AV.int .i64 ((y6).2.2.1), AV.int .i64 ((y6).2.2.2.1), AV.int .i64 ((y6).2.2.2.2)]]))
    · simp only [hc4, ls]
      conv => lhs; whnf
      refine bind_some2 hm ?_; clear hm; intro y10 hy10 hm
      have hk11 : call false 49 [AV.ptr 0 0, AV.str (([40] : List UInt8))] [Ob.var 48 [AV.sl 4 (List.map c_api_Token (p_l)), AV.int .i64 (p_i), AV.int .i64 (p_in), AV.int .i64 (p_e), AV.int .i64 (p_at)]] = some (AV.bool (y10), [Ob.var 48 [AV.sl 4 (List.map c_api_Token (p_l)), AV.int .i64 (p_i), AV.int .i64 (p_in), AV.int .i64 (p_e), AV.int .i64 (p_at)]]) := (hc _ _ _).trans (ok_expr_parser_is n ([40] : List UInt8) p_l p_i p_in p_e p_at y10 hy10)
      try simp only [List.drop_zero, ls]
      first | simp only [hk11] | rewrite [hk11]
      try simp only [ls]
      conv => lhs; whnf
      refine bif_or2 hm ?_ ?_ <;> clear hm <;> intro hc12 hm
      · simp only [hc12, ls]
        conv => lhs; whnf
        refine bind_some2 hm ?_; clear hm; intro y13 hy13 hm
        have hk14 : call false 56 [AV.ptr 0 0, AV.func 30 [] []] [Ob.var 48 [AV.sl 4 (List.map c_api_Token (p_l)), AV.int .i64 (p_i), AV.int .i64 (p_in), AV.int .i64 (p_e), AV.int .i64 (p_at)]] = some (AV.sl 5 (List.map c_api_Node ((y13).1)), [Ob.var 48 [AV.sl 4 (List.map c_api_Token (p_l)), AV.int .i64 ((y13).2.1), AV.int .i64 ((y13).2.2.1), AV.int .i64 ((y13).2.2.2.1), AV.int .i64 ((y13).2.2.2.2)]]) := (hc _ _ _).trans (ih_expr_parser_inner_1 p_l p_i p_in p_e p_at y13 hy13)
        try simp only [List.drop_zero, ls]
        first | simp only [hk14] | rewrite [hk14]
        try simp only [ls]
        conv => lhs; whnf
        refine bif_or2 hm ?_ ?_ <;> clear hm <;> intro hc15 hm
        · simp only [hc15, ls]
          conv => lhs; whnf
          refine bind_some2 hm ?_; clear hm; intro y16 hy16 hm
          have hk17 : call false 49 [AV.ptr 0 0, AV.str (([41] : List UInt8))] [Ob.var 48 [AV.sl 4 (List.map c_api_Token (p_l)), AV.int .i64 ((y13).2.1), AV.int .i64 ((y13).2.2.1), AV.int .i64 ((y13).2.2.2.1), AV.int .i64 ((y13).2.2.2.2)]] = some (AV.bool (y16), [Ob.var 48 [AV.sl 4 (List.map c_api_Token (p_l)), AV.int .i64 ((y13).2.1), AV.int .i64 ((y13).2.2.1), AV.int .i64 ((y13).2.2.2.1), AV.int .i64 ((y13).2.2.2.2)]]) := (hc _ _ _).trans (ok_expr_parser_is n ([41] : List UInt8) p_l ((y13).2.1) ((y13).2.2.1) ((y13).2.2.2.1) ((y13).2.2.2.2) y16 hy16)
          try simp only [List.drop_zero, ls]
          first | simp only [hk17] | rewrite [hk17]
          try simp only [ls]
          conv => lhs; whnf
          refine bif_or2 hm ?_ ?_ <;> clear hm <;> intro hc18 hm
          · simp only [hc18, ls]
            conv => lhs; whnf
            have hq := Option.some.inj hm; clear hm; subst hq
            try simp only [ls]
            exact fq (y := some (AV.sl 5 (List.map c_api_Node ((y13).1)), [Ob.var 48 [AV.sl 4 (List.map c_api_Token (p_l)), AV.int .i64 (IntKind.i64.wrap (((y13).2.1) + 1)), AV.int .i64 ((y13).2.2.1), AV.int .i64 ((y13).2.2.2.1), AV.int .i64 ((y13).2.2.2.2)]]))
          · simp only [hc18, ls]
            conv => lhs; whnf
            refine bind_some2 hm ?_; clear hm; intro y19 hy19 hm
            have hk20 : call false 57 [AV.ptr 0 0, AV.int .i64 (5)] [Ob.var 48 [AV.sl 4 (List.map c_api_Token (p_l)), AV.int .i64 ((y13).2.1), AV.int .i64 ((y13).2.2.1), AV.int .i64 ((y13).2.2.2.1), AV.int .i64 ((y13).2.2.2.2)]] = some (AV.sl 5 (List.map c_api_Node ((y19).1)), [Ob.var 48 [AV.sl 4 (List.map c_api_Token (p_l)), AV.int .i64 ((y13).2.1), AV.int .i64 ((y13).2.2.1), AV.int .i64 ((y19).2.1), AV.int .i64 ((y19).2.2)]]) := (hc _ _ _).trans (ok_expr_parser_fail n 5 p_l ((y13).2.1) ((y13).2.2.1) ((y13).2.2.2.1) ((y13).2.2.2.2) y19 hy19)
            try simp only [List.drop_zero, ls]
            first | simp only [hk20] | rewrite [hk20]
            try simp only [ls]
            conv => lhs; whnf
            have hq := Option.some.inj hm; clear hm; subst hq
            try simp only [ls]
            exact fq (y := some (AV.sl 5 (List.map c_api_Node ((y19).1)), [Ob.var 48 [AV.sl 4 (List.map c_api_Token (p_l)), AV.int .i64 ((y13).2.1), AV.int .i64 ((y13).2.2.1), AV.int .i64 ((y19).2.1), AV.int .i64 ((y19).2.2)]]))
        · simp only [hc15, ls]
          conv => lhs; whnf
          have hq := Option.some.inj hm; clear hm; subst hq
          try simp only [ls]
          exact fq (y := some (AV.sl 5 (List.map c_api_Node ((y13).1)), [Ob.var 48 [AV.sl 4 (List.map c_api_Token (p_l)), AV.int .i64 (IntKind.i64.wrap (((y13).2.1) + 1)), AV.int .i64 ((y13).2.2.1), AV.int .i64 ((y13).2.2.2.1), AV.int .i64 ((y13).2.2.2.2)]]))
      · simp only [hc12, ls]
        conv => lhs; whnf
        refine bif_or2 hm ?_ ?_ <;> clear hm <;> intro hc21 hm
        · simp only [hc21, ls]
          conv => lhs; whnf
          refine bind_some2 hm ?_; clear hm; intro x22 hx22 hm
          refine bif_pos (by first | exact idx_in hx22 | exact idx_in' hx22) ?_
          simp only [idx_nth (f := c_api_Token) hx22, ls]
          conv => lhs; whnf
          refine bif_or2 hm ?_ ?_ <;> clear hm <;> intro hc23 hm
          · simp only [hc23, ls]
            conv => lhs; whnf
            refine bind_some2 hm ?_; clear hm; intro x24 hx24 hm
            refine bif_pos (by first | exact idx_in hx24 | exact idx_in' hx24) ?_
            simp only [idx_nth (f := c_api_Token) hx24, ls]
            conv => lhs; whnf
            refine bind_some2 hm ?_; clear hm; intro y25 hy25 hm
            have hk26 : call false 50 [AV.agg [AV.int .i64 (1), AV.int .i64 (x24.f_N), AV.str (([] : List UInt8)), AV.str (([] : List UInt8)), AV.int .i64 (x24.f_At)], AV.sl 1 []] [] = some (AV.sl 5 (List.map c_api_Node (y25)), []) := (hc _ _ _).trans (ok_expr_node n (⟨1, x24.f_N, ([] : List UInt8), ([] : List UInt8), x24.f_At⟩ : S_api_Node) ([] : List (List S_api_Node)) y25 hy25)
            try simp only [List.length_nil, List.map_nil] at hk26
            try simp only [List.length_nil, List.map_nil]
            try simp only [List.drop_zero, ls]
            first | simp only [hk26] | rewrite [hk26]
            try simp only [ls]
            conv => lhs; whnf
            have hq := Option.some.inj hm; clear hm; subst hq
            try simp only [ls]
            exact fq (y := some (AV.sl 5 (List.map c_api_Node (y25)), [Ob.var 48 [AV.sl 4 (List.map c_api_Token (p_l)), AV.int .i64 (IntKind.i64.wrap (p_i + 1)), AV.int .i64 (p_in), AV.int .i64 (p_e), AV.int .i64 (p_at)]]))
          · simp only [hc23, ls]
            conv => lhs; whnf
            refine bind_some2 hm ?_; clear hm; intro y27 hy27 hm
            have hk28 : call false 58 [AV.ptr 0 0] [Ob.var 48 [AV.sl 4 (List.map c_api_Token (p_l)), AV.int .i64 (p_i), AV.int .i64 (p_in), AV.int .i64 (p_e), AV.int .i64 (p_at)]] = some (AV.tup [AV.str ((y27).1), AV.int .i64 ((y27).2.1), AV.bool ((y27).2.2.1)], [Ob.var 48 [AV.sl 4 (List.map c_api_Token (p_l)), AV.int .i64 ((y27).2.2.2), AV.int .i64 (p_in), AV.int .i64 (p_e), AV.int .i64 (p_at)]]) := (hc _ _ _).trans (ok_expr_parser_name n p_l p_i p_in p_e p_at y27 hy27)
            try simp only [List.drop_zero, ls]
            first | simp only [hk28] | rewrite [hk28]
            try simp only [ls]
            conv => lhs; whnf
            refine bif_or2 hm ?_ ?_ <;> clear hm <;> intro hc29 hm
            · simp only [hc29, ls]
              conv => lhs; whnf
              refine bind_some2 hm ?_; clear hm; intro y30 hy30 hm
              have hk31 : call false 49 [AV.ptr 0 0, AV.str (([46] : List UInt8))] [Ob.var 48 [AV.sl 4 (List.map c_api_Token (p_l)), AV.int .i64 ((y27).2.2.2), AV.int .i64 (p_in), AV.int .i64 (p_e), AV.int .i64 (p_at)]] = some (AV.bool (y30), [Ob.var 48 [AV.sl 4 (List.map c_api_Token (p_l)), AV.int .i64 ((y27).2.2.2), AV.int .i64 (p_in), AV.int .i64 (p_e), AV.int .i64 (p_at)]]) := (hc _ _ _).trans (ok_expr_parser_is n ([46] : List UInt8) p_l ((y27).2.2.2) p_in p_e p_at y30 hy30)
              try simp only [List.drop_zero, ls]
              first | simp only [hk31] | rewrite [hk31]
              try simp only [ls]
              conv => lhs; whnf
              refine bif_or2 hm ?_ ?_ <;> clear hm <;> intro hc32 hm
              · simp only [hc32, ls]
                conv => lhs; whnf
                refine bind_some2 hm ?_; clear hm; intro y33 hy33 hm
                have hk34 : call false 58 [AV.ptr 0 0] [Ob.var 48 [AV.sl 4 (List.map c_api_Token (p_l)), AV.int .i64 (IntKind.i64.wrap (((y27).2.2.2) + 1)), AV.int .i64 (p_in), AV.int .i64 (p_e), AV.int .i64 (p_at)]] = some (AV.tup [AV.str ((y33).1), AV.int .i64 ((y33).2.1), AV.bool ((y33).2.2.1)], [Ob.var 48 [AV.sl 4 (List.map c_api_Token (p_l)), AV.int .i64 ((y33).2.2.2), AV.int .i64 (p_in), AV.int .i64 (p_e), AV.int .i64 (p_at)]]) := (hc _ _ _).trans (ok_expr_parser_name n p_l (IntKind.i64.wrap (((y27).2.2.2) + 1)) p_in p_e p_at y33 hy33)
                try simp only [List.drop_zero, ls]
                first | simp only [hk34] | rewrite [hk34]
                try simp only [ls]
                conv => lhs; whnf
                refine bif_or2 hm ?_ ?_ <;> clear hm <;> intro hc35 hm
                · simp only [hc35, ls]
                  conv => lhs; whnf
                  refine bind_some2 hm ?_; clear hm; intro y36 hy36 hm
                  have hk37 : call false 50 [AV.agg [AV.int .i64 (4), AV.int .i64 (0), AV.str ((y33).1), AV.str ((y27).1), AV.int .i64 ((y27).2.1)], AV.sl 1 []] [] = some (AV.sl 5 (List.map c_api_Node (y36)), []) := (hc _ _ _).trans (ok_expr_node n (⟨4, 0, (y33).1, (y27).1, (y27).2.1⟩ : S_api_Node) ([] : List (List S_api_Node)) y36 hy36)
                  try simp only [List.length_nil, List.map_nil] at hk37
                  try simp only [List.length_nil, List.map_nil]
                  try simp only [List.drop_zero, ls]
                  first | simp only [hk37] | rewrite [hk37]
                  try simp only [ls]
                  conv => lhs; whnf
                  have hq := Option.some.inj hm; clear hm; subst hq
                  try simp only [ls]
                  exact fq (y := some (AV.sl 5 (List.map c_api_Node (y36)), [Ob.var 48 [AV.sl 4 (List.map c_api_Token (p_l)), AV.int .i64 ((y33).2.2.2), AV.int .i64 (p_in), AV.int .i64 (p_e), AV.int .i64 (p_at)]]))
                · simp only [hc35, ls]
                  conv => lhs; whnf
                  refine bind_some2 hm ?_; clear hm; intro y38 hy38 hm
                  have hk39 : call false 57 [AV.ptr 0 0, AV.int .i64 (5)] [Ob.var 48 [AV.sl 4 (List.map c_api_Token (p_l)), AV.int .i64 ((y33).2.2.2), AV.int .i64 (p_in), AV.int .i64 (p_e), AV.int .i64 (p_at)]] = some (AV.sl 5 (List.map c_api_Node ((y38).1)), [Ob.var 48 [AV.sl 4 (List.map c_api_Token (p_l)), AV.int .i64 ((y33).2.2.2), AV.int .i64 (p_in), AV.int .i64 ((y38).2.1), AV.int .i64 ((y38).2.2)]]) := (hc _ _ _).trans (ok_expr_parser_fail n 5 p_l ((y33).2.2.2) p_in p_e p_at y38 hy38)
                  try simp only [List.drop_zero, ls]
                  first | simp only [hk39] | rewrite [hk39]
                  try simp only [ls]
                  conv => lhs; whnf
                  have hq := Option.some.inj hm; clear hm; subst hq
                  try simp only [ls]
                  exact fq (y := some (AV.sl 5 (List.map c_api_Node ((y38).1)), [Ob.var 48 [AV.sl 4 (List.map c_api_Token (p_l)), AV.int .i64 ((y33).2.2.2), AV.int .i64 (p_in), AV.int .i64 ((y38).2.1), AV.int .i64 ((y38).2.2)]]))
              · simp only [hc32, ls]
                conv => lhs; whnf
                refine bind_some2 hm ?_; clear hm; intro y40 hy40 hm
                have hk41 : call false 50 [AV.agg [AV.int .i64 (2), AV.int .i64 (0), AV.str ((y27).1), AV.str (([] : List UInt8)), AV.int .i64 ((y27).2.1)], AV.sl 1 []] [] = some (AV.sl 5 (List.map c_api_Node (y40)), []) := (hc _ _ _).trans (ok_expr_node n (⟨2, 0, (y27).1, ([] : List UInt8), (y27).2.1⟩ : S_api_Node) ([] : List (List S_api_Node)) y40 hy40)
                try simp only [List.length_nil, List.map_nil] at hk41
                try simp only [List.length_nil, List.map_nil]
                try simp only [List.drop_zero, ls]
                first | simp only [hk41] | rewrite [hk41]
                try simp only [ls]
                conv => lhs; whnf
                have hq := Option.some.inj hm; clear hm; subst hq
                try simp only [ls]
                exact fq (y := some (AV.sl 5 (List.map c_api_Node (y40)), [Ob.var 48 [AV.sl 4 (List.map c_api_Token (p_l)), AV.int .i64 ((y27).2.2.2), AV.int .i64 (p_in), AV.int .i64 (p_e), AV.int .i64 (p_at)]]))
            · simp only [hc29, ls]
              conv => lhs; whnf
              refine bind_some2 hm ?_; clear hm; intro y42 hy42 hm
              have hk43 : call false 57 [AV.ptr 0 0, AV.int .i64 (5)] [Ob.var 48 [AV.sl 4 (List.map c_api_Token (p_l)), AV.int .i64 ((y27).2.2.2), AV.int .i64 (p_in), AV.int .i64 (p_e), AV.int .i64 (p_at)]] = some (AV.sl 5 (List.map c_api_Node ((y42).1)), [Ob.var 48 [AV.sl 4 (List.map c_api_Token (p_l)), AV.int .i64 ((y27).2.2.2), AV.int .i64 (p_in), AV.int .i64 ((y42).2.1), AV.int .i64 ((y42).2.2)]]) := (hc _ _ _).trans (ok_expr_parser_fail n 5 p_l ((y27).2.2.2) p_in p_e p_at y42 hy42)
              try simp only [List.drop_zero, ls]
              first | simp only [hk43] | rewrite [hk43]
              try simp only [ls]
              conv => lhs; whnf
              have hq := Option.some.inj hm; clear hm; subst hq
              try simp only [ls]
              exact fq (y := some (AV.sl 5 (List.map c_api_Node ((y42).1)), [Ob.var 48 [AV.sl 4 (List.map c_api_Token (p_l)), AV.int .i64 ((y27).2.2.2), AV.int .i64 (p_in), AV.int .i64 ((y42).2.1), AV.int .i64 ((y42).2.2)]]))
        · simp only [hc21, ls]
          conv => lhs; whnf
          refine bind_some2 hm ?_; clear hm; intro y44 hy44 hm
          have hk45 : call false 58 [AV.ptr 0 0] [Ob.var 48 [AV.sl 4 (List.map c_api_Token (p_l)), AV.int .i64 (p_i), AV.int .i64 (p_in), AV.int .i64 (p_e), AV.int .i64 (p_at)]] = some (AV.tup [AV.str ((y44).1), AV.int .i64 ((y44).2.1), AV.bool ((y44).2.2.1)], [Ob.var 48 [AV.sl 4 (List.map c_api_Token (p_l)), AV.int .i64 ((y44).2.2.2), AV.int .i64 (p_in), AV.int .i64 (p_e), AV.int .i64 (p_at)]]) := (hc _ _ _).trans (ok_expr_parser_name n p_l p_i p_in p_e p_at y44 hy44)
          try simp only [List.drop_zero, ls]
          first | simp only [hk45] | rewrite [hk45]
          try simp only [ls]
          conv => lhs; whnf
          refine bif_or2 hm ?_ ?_ <;> clear hm <;> intro hc46 hm
          · simp only [hc46, ls]
            conv => lhs; whnf
            refine bind_some2 hm ?_; clear hm; intro y47 hy47 hm
            have hk48 : call false 49 [AV.ptr 0 0, AV.str (([46] : List UInt8))] [Ob.var 48 [AV.sl 4 (List.map c_api_Token (p_l)), AV.int .i64 ((y44).2.2.2), AV.int .i64 (p_in), AV.int .i64 (p_e), AV.int .i64 (p_at)]] = some (AV.bool (y47), [Ob.var 48 [AV.sl 4 (List.map c_api_Token (p_l)), AV.int .i64 ((y44).2.2.2), AV.int .i64 (p_in), AV.int .i64 (p_e), AV.int .i64 (p_at)]]) := (hc _ _ _).trans (ok_expr_parser_is n ([46] : List UInt8) p_l ((y44).2.2.2) p_in p_e p_at y47 hy47)
            try simp only [List.drop_zero, ls]
            first | simp only [hk48] | rewrite [hk48]
            try simp only [ls]
            conv => lhs; whnf
            refine bif_or2 hm ?_ ?_ <;> clear hm <;> intro hc49 hm
            · simp only [hc49, ls]
              conv => lhs; whnf
              refine bind_some2 hm ?_; clear hm; intro y50 hy50 hm
              have hk51 : call false 58 [AV.ptr 0 0] [Ob.var 48 [AV.sl 4 (List.map c_api_Token (p_l)), AV.int .i64 (IntKind.i64.wrap (((y44).2.2.2) + 1)), AV.int .i64 (p_in), AV.int .i64 (p_e), AV.int .i64 (p_at)]] = some (AV.tup [AV.str ((y50).1), AV.int .i64 ((y50).2.1), AV.bool ((y50).2.2.1)], [Ob.var 48 [AV.sl 4 (List.map c_api_Token (p_l)), AV.int .i64 ((y50).2.2.2), AV.int .i64 (p_in), AV.int .i64 (p_e), AV.int .i64 (p_at)]]) := (hc _ _ _).trans (ok_expr_parser_name n p_l (IntKind.i64.wrap (((y44).2.2.2) + 1)) p_in p_e p_at y50 hy50)
              try simp only [List.drop_zero, ls]
              first | simp only [hk51] | rewrite [hk51]
              try simp only [ls]
              conv => lhs; whnf
              refine bif_or2 hm ?_ ?_ <;> clear hm <;> intro hc52 hm
              · simp only [hc52, ls]
                conv => lhs; whnf
                refine bind_some2 hm ?_; clear hm; intro y53 hy53 hm
                have hk54 : call false 50 [AV.agg [AV.int .i64 (4), AV.int .i64 (0), AV.str ((y50).1), AV.str ((y44).1), AV.int .i64 ((y44).2.1)], AV.sl 1 []] [] = some (AV.sl 5 (List.map c_api_Node (y53)), []) := (hc _ _ _).trans (ok_expr_node n (⟨4, 0, (y50).1, (y44).1, (y44).2.1⟩ : S_api_Node) ([] : List (List S_api_Node)) y53 hy53)
                try simp only [List.length_nil, List.map_nil] at hk54
                try simp only [List.length_nil, List.map_nil]
                try simp only [List.drop_zero, ls]
                first | simp only [hk54] | rewrite [hk54]
                try simp only [ls]
                conv => lhs; whnf
                have hq := Option.some.inj hm; clear hm; subst hq
                try simp only [ls]
                exact fq (y := some (AV.sl 5 (List.map c_api_Node (y53)), [Ob.var 48 [AV.sl 4 (List.map c_api_Token (p_l)), AV.int .i64 ((y50).2.2.2), AV.int .i64 (p_in), AV.int .i64 (p_e), AV.int .i64 (p_at)]]))
              · simp only [hc52, ls]
                conv => lhs; whnf
                refine bind_some2 hm ?_; clear hm; intro y55 hy55 hm
                have hk56 : call false 57 [AV.ptr 0 0, AV.int .i64 (5)] [Ob.var 48 [AV.sl 4 (List.map c_api_Token (p_l)), AV.int .i64 ((y50).2.2.2), AV.int .i64 (p_in), AV.int .i64 (p_e), AV.int .i64 (p_at)]] = some (AV.sl 5 (List.map c_api_Node ((y55).1)), [Ob.var 48 [AV.sl 4 (List.map c_api_Token (p_l)), AV.int .i64 ((y50).2.2.2), AV.int .i64 (p_in), AV.int .i64 ((y55).2.1), AV.int .i64 ((y55).2.2)]]) := (hc _ _ _).trans (ok_expr_parser_fail n 5 p_l ((y50).2.2.2) p_in p_e p_at y55 hy55)
                try simp only [List.drop_zero, ls]
                first | simp only [hk56] | rewrite [hk56]
                try simp only [ls]
                conv => lhs; whnf
                have hq := Option.some.inj hm; clear hm; subst hq
                try simp only [ls]
                exact fq (y := some (AV.sl 5 (List.map c_api_Node ((y55).1)), [Ob.var 48 [AV.sl 4 (List.map c_api_Token (p_l)), AV.int .i64 ((y50).2.2.2), AV.int .i64 (p_in), AV.int .i64 ((y55).2.1), AV.int .i64 ((y55).2.2)]]))
            · simp only [hc49, ls]
              conv => lhs; whnf
              refine bind_some2 hm ?_; clear hm; intro y57 hy57 hm
              have hk58 : call false 50 [AV.agg [AV.int .i64 (2), AV.int .i64 (0), AV.str ((y44).1), AV.str (([] : List UInt8)), AV.int .i64 ((y44).2.1)], AV.sl 1 []] [] = some (AV.sl 5 (List.map c_api_Node (y57)), []) := (hc _ _ _).trans (ok_expr_node n (⟨2, 0, (y44).1, ([] : List UInt8), (y44).2.1⟩ : S_api_Node) ([] : List (List S_api_Node)) y57 hy57)
              try simp only [List.length_nil, List.map_nil] at hk58
              try simp only [List.length_nil, List.map_nil]
              try simp only [List.drop_zero, ls]
              first | simp only [hk58] | rewrite [hk58]
              try simp only [ls]
              conv => lhs; whnf
              have hq := Option.some.inj hm; clear hm; subst hq
              try simp only [ls]
              exact fq (y := some (AV.sl 5 (List.map c_api_Node (y57)), [Ob.var 48 [AV.sl 4 (List.map c_api_Token (p_l)), AV.int .i64 ((y44).2.2.2), AV.int .i64 (p_in), AV.int .i64 (p_e), AV.int .i64 (p_at)]]))
          · simp only [hc46, ls]
            conv => lhs; whnf
            refine bind_some2 hm ?_; clear hm; intro y59 hy59 hm
            have hk60 : call false 57 [AV.ptr 0 0, AV.int .i64 (5)] [Ob.var 48 [AV.sl 4 (List.map c_api_Token (p_l)), AV.int .i64 ((y44).2.2.2), AV.int .i64 (p_in), AV.int .i64 (p_e), AV.int .i64 (p_at)]] = some (AV.sl 5 (List.map c_api_Node ((y59).1)), [Ob.var 48 [AV.sl 4 (List.map c_api_Token (p_l)), AV.int .i64 ((y44).2.2.2), AV.int .i64 (p_in), AV.int .i64 ((y59).2.1), AV.int .i64 ((y59).2.2)]]) := (hc _ _ _).trans (ok_expr_parser_fail n 5 p_l ((y44).2.2.2) p_in p_e p_at y59 hy59)
            try simp only [List.drop_zero, ls]
            first | simp only [hk60] | rewrite [hk60]
            try simp only [ls]
            conv => lhs; whnf
            have hq := Option.some.inj hm; clear hm; subst hq
            try simp only [ls]
            exact fq (y := some (AV.sl 5 (List.map c_api_Node ((y59).1)), [Ob.var 48 [AV.sl 4 (List.map c_api_Token (p_l)), AV.int .i64 ((y44).2.2.2), AV.int .i64 (p_in), AV.int .i64 ((y59).2.1), AV.int .i64 ((y59).2.2)]]))
set_option maxHeartbeats 4000000 in
theorem st_expr_parser_sum (n : Nat) (ih_expr_parser_any : OK_expr_parser_any n) (ih_expr_parser_both : OK_expr_parser_both n) (ih_expr_parser_compared : OK_expr_parser_compared n) (ih_expr_parser_inner : OK_expr_parser_inner n) (ih_expr_parser_inner_1 : OK_expr_parser_inner_1 n) (ih_expr_parser_product : OK_expr_parser_product n) (ih_expr_parser_row : OK_expr_parser_row n) (ih_expr_parser_row_1 : OK_expr_parser_row_1 n) (ih_expr_parser_row_2 : OK_expr_parser_row_2 n) (ih_expr_parser_row_3 : OK_expr_parser_row_3 n) (ih_expr_parser_row_4 : OK_expr_parser_row_4 n) (ih_expr_parser_single : OK_expr_parser_single n) (ih_expr_parser_sum : OK_expr_parser_sum n) : OK_expr_parser_sum (n + 1) := by
  intro p_l p_i p_in p_e p_at r hm
  rw [m_expr_parser_sum] at hm
  refine callN_eq' Try.func53 (by rfl) rfl rfl (Nat.le_of_ble_eq_true rfl) ?_
  intro call hc
  conv => lhs; whnf
  refine bind_some2 hm ?_; clear hm; intro y1 hy1 hm
  have hk2 : call false 40 [AV.ptr 0 0, AV.func 54 [] [], AV.bool (false), AV.sl 1 [[AV.int .i64 (6)], [AV.int .i64 (7)]]] [Ob.var 48 [AV.sl 4 (List.map c_api_Token (p_l)), AV.int .i64 (p_i), AV.int .i64 (p_in), AV.int .i64 (p_e), AV.int .i64 (p_at)]] = some (AV.sl 5 (List.map c_api_Node ((y1).1)), [Ob.var 48 [AV.sl 4 (List.map c_api_Token (p_l)), AV.int .i64 ((y1).2.1), AV.int .i64 ((y1).2.2.1), AV.int .i64 ((y1).2.2.2.1), AV.int .i64 ((y1).2.2.2.2)]]) := (hc _ _ _).trans (ih_expr_parser_row_3 false ([6, 7] : List Int) p_l p_i p_in p_e p_at y1 hy1)
  try simp only [List.drop_zero, ls]
  first | simp only [hk2] | rewrite [hk2]
  try simp only [ls]
  conv => lhs; whnf
  have hq := Option.some.inj hm; clear hm; subst hq
  try simp only [ls]
  exact fq (y := some (AV.sl 5 (List.map c_api_Node ((y1).1)), [Ob.var 48 [AV.sl 4 (List.map c_api_Token (p_l)), AV.int .i64 ((y1).2.1), AV.int .i64 ((y1).2.2.1), AV.int .i64 ((y1).2.2.2.1), AV.int .i64 ((y1).2.2.2.2)]]))
theorem all_expr_parser_any (n : Nat) : OK_expr_parser_any n ∧ OK_expr_parser_both n ∧ OK_expr_parser_compared n ∧ OK_expr_parser_inner n ∧ OK_expr_parser_inner_1 n ∧ OK_expr_parser_product n ∧ OK_expr_parser_row n ∧ OK_expr_parser_row_1 n ∧ OK_expr_parser_row_2 n ∧ OK_expr_parser_row_3 n ∧ OK_expr_parser_row_4 n ∧ OK_expr_parser_single n ∧ OK_expr_parser_sum n := by
  induction n with
  | zero => exact ⟨by unfold OK_expr_parser_any; intros; rename_i hm; exact absurd hm (by intro h; cases h), by unfold OK_expr_parser_both; intros; rename_i hm; exact absurd hm (by intro h; cases h), by unfold OK_expr_parser_compared; intros; rename_i hm; exact absurd hm (by intro h; cases h), by unfold OK_expr_parser_inner; intros; rename_i hm; exact absurd hm (by intro h; cases h), by unfold OK_expr_parser_inner_1; intros; rename_i hm; exact absurd hm (by intro h; cases h), by unfold OK_expr_parser_product; intros; rename_i hm; exact absurd hm (by intro h; cases h), by unfold OK_expr_parser_row; intros; rename_i hm; exact absurd hm (by intro h; cases h), by unfold OK_expr_parser_row_1; intros; rename_i hm; exact absurd hm (by intro h; cases h), by unfold OK_expr_parser_row_2; intros; rename_i hm; exact absurd hm (by intro h; cases h), by unfold OK_expr_parser_row_3; intros; rename_i hm; exact absurd hm (by intro h; cases h), by unfold OK_expr_parser_row_4; intros; rename_i hm; exact absurd hm (by intro h; cases h), by unfold OK_expr_parser_single; intros; rename_i hm; exact absurd hm (by intro h; cases h), by unfold OK_expr_parser_sum; intros; rename_i hm; exact absurd hm (by intro h; cases h)⟩
  | succ n ih =>
    obtain ⟨ih0, ih1, ih2, ih3, ih4, ih5, ih6, ih7, ih8, ih9, ih10, ih11, ih12⟩ := ih
    exact ⟨st_expr_parser_any n ih0 ih1 ih2 ih3 ih4 ih5 ih6 ih7 ih8 ih9 ih10 ih11 ih12, st_expr_parser_both n ih0 ih1 ih2 ih3 ih4 ih5 ih6 ih7 ih8 ih9 ih10 ih11 ih12, st_expr_parser_compared n ih0 ih1 ih2 ih3 ih4 ih5 ih6 ih7 ih8 ih9 ih10 ih11 ih12, st_expr_parser_inner n ih0 ih1 ih2 ih3 ih4 ih5 ih6 ih7 ih8 ih9 ih10 ih11 ih12, st_expr_parser_inner_1 n ih0 ih1 ih2 ih3 ih4 ih5 ih6 ih7 ih8 ih9 ih10 ih11 ih12, st_expr_parser_product n ih0 ih1 ih2 ih3 ih4 ih5 ih6 ih7 ih8 ih9 ih10 ih11 ih12, st_expr_parser_row n ih0 ih1 ih2 ih3 ih4 ih5 ih6 ih7 ih8 ih9 ih10 ih11 ih12, st_expr_parser_row_1 n ih0 ih1 ih2 ih3 ih4 ih5 ih6 ih7 ih8 ih9 ih10 ih11 ih12, st_expr_parser_row_2 n ih0 ih1 ih2 ih3 ih4 ih5 ih6 ih7 ih8 ih9 ih10 ih11 ih12, st_expr_parser_row_3 n ih0 ih1 ih2 ih3 ih4 ih5 ih6 ih7 ih8 ih9 ih10 ih11 ih12, st_expr_parser_row_4 n ih0 ih1 ih2 ih3 ih4 ih5 ih6 ih7 ih8 ih9 ih10 ih11 ih12, st_expr_parser_single n ih0 ih1 ih2 ih3 ih4 ih5 ih6 ih7 ih8 ih9 ih10 ih11 ih12, st_expr_parser_sum n ih0 ih1 ih2 ih3 ih4 ih5 ih6 ih7 ih8 ih9 ih10 ih11 ih12⟩
theorem ok_expr_parser_any (n : Nat) : OK_expr_parser_any n := (all_expr_parser_any n).1
end Go.Proofs.Ytjobghbdfannfaa
end

section
namespace Go.Proofs.Ytjobghbdfannfaa
set_option linter.unusedVariables false
set_option linter.unusedSimpArgs false
set_option maxRecDepth 100000

set_option maxHeartbeats 4000000 in
theorem ok_expr_Parse (n : Nat) : ∀ (v0_l : (List S_api_Token)) (v1_i : Int) (r : ((List S_api_Node) × Int × Int × Int)), m_expr_Parse n v0_l v1_i = some r → callN Try.prog HH XT n 20 [AV.sl 4 (List.map c_api_Token (v0_l)), AV.int .i64 (v1_i)] [] = some (AV.tup [AV.sl 5 (List.map c_api_Node ((r).1)), AV.int .i64 ((r).2.1), AV.int .i64 ((r).2.2.1), AV.int .i64 ((r).2.2.2)], []) := by
  cases n with
  | zero => intro v0_l v1_i r hm; exact absurd hm (by intro h; cases h)
  | succ n =>
    intro v0_l v1_i r hm
    rw [m_expr_Parse] at hm
    refine callN_eq' Try.func20 (by rfl) rfl rfl (Nat.le_of_ble_eq_true rfl) ?_
    intro call hc
    conv => lhs; whnf
    refine bif_or2 hm ?_ ?_ <;> clear hm <;> intro hc1 hm
    · simp only [hc1, ls]
      conv => lhs; whnf
      have hq := Option.some.inj hm; clear hm; subst hq
      try simp only [ls]
      exact fq (y := some (AV.tup [AV.sl 5 [], AV.int .i64 (0), AV.int .i64 (1), AV.int .i64 (0)], []))
    · simp only [hc1, ls]
      conv => lhs; whnf
      refine bind_some2 hm ?_; clear hm; intro y2 hy2 hm
      have hk3 : call false 30 [AV.ptr 0 0] [Ob.var 48 [AV.sl 4 (List.map c_api_Token (v0_l)), AV.int .i64 (v1_i), AV.int .i64 (0), AV.int .i64 (0), AV.int .i64 (0)]] = some (AV.sl 5 (List.map c_api_Node ((y2).1)), [Ob.var 48 [AV.sl 4 (List.map c_api_Token (v0_l)), AV.int .i64 ((y2).2.1), AV.int .i64 ((y2).2.2.1), AV.int .i64 ((y2).2.2.2.1), AV.int .i64 ((y2).2.2.2.2)]]) := (hc _ _ _).trans (ok_expr_parser_any n v0_l v1_i 0 0 0 y2 hy2)
      try simp only [List.drop_zero, ls]
      first | simp only [hk3] | rewrite [hk3]
      try simp only [ls]
      conv => lhs; whnf
      refine bif_or2 hm ?_ ?_ <;> clear hm <;> intro hc4 hm
      · simp only [hc4, ls]
        conv => lhs; whnf
        have hq := Option.some.inj hm; clear hm; subst hq
        try simp only [ls]
        exact fq (y := some (AV.tup [AV.sl 5 [], AV.int .i64 (0), AV.int .i64 ((y2).2.2.2.1), AV.int .i64 ((y2).2.2.2.2)], []))
      · simp only [hc4, ls]
        conv => lhs; whnf
        refine bind_some2 hm ?_; clear hm; intro y5 hy5 hm
        have hk6 : call false 22 [AV.sl 5 (List.map c_api_Node ((y2).1))] [] = some (AV.int .i64 (y5), []) := (hc _ _ _).trans (ok_expr_depth n ((y2).1) y5 hy5)
        try simp only [List.drop_zero, ls]
        first | simp only [hk6] | rewrite [hk6]
        try simp only [ls]
        conv => lhs; whnf
        refine bif_or2 hm ?_ ?_ <;> clear hm <;> intro hc7 hm
        · simp only [hc7, ls]
          conv => lhs; whnf
          refine bind_some2 hm ?_; clear hm; intro x8 hx8 hm
          refine bif_pos (by first | exact idx_in hx8 | exact idx_in' hx8) ?_
          simp only [idx_nth (f := c_api_Token) hx8, ls]
          conv => lhs; whnf
          have hq := Option.some.inj hm; clear hm; subst hq
          try simp only [ls]
          exact fq (y := some (AV.tup [AV.sl 5 [], AV.int .i64 (0), AV.int .i64 (7), AV.int .i64 (x8.f_At)], []))
        · simp only [hc7, ls]
          conv => lhs; whnf
          refine bif_or2 hm ?_ ?_ <;> clear hm <;> intro hc9 hm
          · simp only [hc9, ls]
            conv => lhs; whnf
            refine bind_some2 hm ?_; clear hm; intro x10 hx10 hm
            refine bif_pos (by first | exact idx_in hx10 | exact idx_in' hx10) ?_
            simp only [idx_nth (f := c_api_Token) hx10, ls]
            conv => lhs; whnf
            have hq := Option.some.inj hm; clear hm; subst hq
            try simp only [ls]
            exact fq (y := some (AV.tup [AV.sl 5 [], AV.int .i64 (0), AV.int .i64 (2), AV.int .i64 (x10.f_At)], []))
          · simp only [hc9, ls]
            conv => lhs; whnf
            have hq := Option.some.inj hm; clear hm; subst hq
            try simp only [ls]
            exact fq (y := some (AV.tup [AV.sl 5 (List.map c_api_Node ((y2).1)), AV.int .i64 ((y2).2.1), AV.int .i64 (0), AV.int .i64 (0)], []))

def OK_expr_decimal (n : Nat) : Prop := ∀ (v0_n : Int) (r : (List UInt8)), m_expr_decimal n v0_n = some r → callN Try.prog HH XT n 33 [AV.int .i64 (v0_n)] [] = some (AV.str (r), [])
set_option maxHeartbeats 4000000 in
theorem st_expr_decimal (n : Nat) (ih_expr_decimal : OK_expr_decimal n) : OK_expr_decimal (n + 1) := by
  intro v0_n r hm
  rw [m_expr_decimal] at hm
  refine callN_eq' Try.func33 (by rfl) rfl rfl (Nat.le_of_ble_eq_true rfl) ?_
  intro call hc
  conv => lhs; whnf
  refine bif_or2 hm ?_ ?_ <;> clear hm <;> intro hc1 hm
  · simp only [hc1, ls]
    conv => lhs; whnf
    have hq := Option.some.inj hm; clear hm; subst hq
    try simp only [ls]
    exact fq (y := some (AV.str (([UInt8.ofNat (IntKind.u8.wrap (IntKind.i64.wrap (48 + v0_n))).toNat] : List UInt8)), []))
  · simp only [hc1, ls]
    conv => lhs; whnf
    refine bind_some2 hm ?_; clear hm; intro y2 hy2 hm
    have hk3 : call false 33 [AV.int .i64 (IntKind.i64.wrap (Int.tdiv v0_n 10))] [] = some (AV.str (y2), []) := (hc _ _ _).trans (ih_expr_decimal (IntKind.i64.wrap (Int.tdiv v0_n 10)) y2 hy2)
    try simp only [List.drop_zero, ls]
    first | simp only [hk3] | rewrite [hk3]
    try simp only [ls]
    conv => lhs; whnf
    refine chk_some2 hm ?_; clear hm; intro hc4 hm
    refine bif_pos hc4 ?_
    try simp only [ls]
    conv => lhs; whnf
    have hq := Option.some.inj hm; clear hm; subst hq
    try simp only [ls]
    exact fq (y := some (AV.str ((y2 ++ ([UInt8.ofNat (IntKind.u8.wrap (IntKind.i64.wrap (48 + (Int.tmod v0_n 10)))).toNat] : List UInt8))), []))
theorem all_expr_decimal (n : Nat) : OK_expr_decimal n := by
  induction n with
  | zero => refine ?_ <;> (unfold OK_expr_decimal; intros; rename_i hm; exact absurd hm (by intro h; cases h))
  | succ n ih =>
    exact st_expr_decimal n ih
theorem ok_expr_decimal (n : Nat) : OK_expr_decimal n := all_expr_decimal n

def OK_expr_shown (n : Nat) : Prop := ∀ (v0_l : (List S_api_Node)) (v1_i : Int) (v2_operand : Bool) (r : ((List UInt8) × Int)), m_expr_shown n v0_l v1_i v2_operand = some r → callN Try.prog HH XT n 27 [AV.sl 5 (List.map c_api_Node (v0_l)), AV.int .i64 (v1_i), AV.bool (v2_operand)] [] = some (AV.tup [AV.str ((r).1), AV.int .i64 ((r).2)], [])
set_option maxHeartbeats 4000000 in
theorem st_expr_shown (n : Nat) (ih_expr_shown : OK_expr_shown n) : OK_expr_shown (n + 1) := by
  intro v0_l v1_i v2_operand r hm
  rw [m_expr_shown] at hm
  refine callN_eq' Try.func27 (by rfl) rfl rfl (Nat.le_of_ble_eq_true rfl) ?_
  intro call hc
  conv => lhs; whnf
  refine bind_some2 hm ?_; clear hm; intro x1 hx1 hm
  refine bif_pos (by first | exact idx_in hx1 | exact idx_in' hx1) ?_
  simp only [idx_nth (f := c_api_Node) hx1, ls]
  conv => lhs; whnf
  refine bif_or2 hm ?_ ?_ <;> clear hm <;> intro hc2 hm
  · simp only [hc2, ls]
    conv => lhs; whnf
    refine bind_some2 hm ?_; clear hm; intro y3 hy3 hm
    have hk4 : call false 33 [AV.int .i64 (x1.f_N)] [] = some (AV.str (y3), []) := (hc _ _ _).trans (ok_expr_decimal n x1.f_N y3 hy3)
    try simp only [List.drop_zero, ls]
    first | simp only [hk4] | rewrite [hk4]
    try simp only [ls]
    conv => lhs; whnf
    have hq := Option.some.inj hm; clear hm; subst hq
    try simp only [ls]
    exact fq (y := some (AV.tup [AV.str (y3), AV.int .i64 (IntKind.i64.wrap (v1_i + 1))], []))
  · simp only [hc2, ls]
    conv => lhs; whnf
    refine bif_or2 hm ?_ ?_ <;> clear hm <;> intro hc5 hm
    · simp only [hc5, ls]
      conv => lhs; whnf
      have hq := Option.some.inj hm; clear hm; subst hq
      try simp only [ls]
      exact fq (y := some (AV.tup [AV.str (x1.f_Name), AV.int .i64 (IntKind.i64.wrap (v1_i + 1))], []))
    · simp only [hc5, ls]
      conv => lhs; whnf
      refine bif_or2 hm ?_ ?_ <;> clear hm <;> intro hc6 hm
      · simp only [hc6, ls]
        conv => lhs; whnf
        have hq := Option.some.inj hm; clear hm; subst hq
        try simp only [ls]
        exact fq (y := some (AV.tup [AV.str (x1.f_Name), AV.int .i64 (IntKind.i64.wrap (v1_i + 1))], []))
      · simp only [hc6, ls]
        conv => lhs; whnf
        refine bif_or2 hm ?_ ?_ <;> clear hm <;> intro hc7 hm
        · simp only [hc7, ls]
          conv => lhs; whnf
          refine chk_some2 hm ?_; clear hm; intro hc8 hm
          refine bif_pos hc8 ?_
          try simp only [ls]
          conv => lhs; whnf
          refine chk_some2 hm ?_; clear hm; intro hc9 hm
          refine bif_pos hc9 ?_
          try simp only [ls]
          conv => lhs; whnf
          have hq := Option.some.inj hm; clear hm; subst hq
          try simp only [ls]
          exact fq (y := some (AV.tup [AV.str (((x1.f_In ++ ([46] : List UInt8)) ++ x1.f_Name)), AV.int .i64 (IntKind.i64.wrap (v1_i + 1))], []))
        · simp only [hc7, ls]
          conv => lhs; whnf
          refine bif_or2 hm ?_ ?_ <;> clear hm <;> intro hc10 hm
          · simp only [hc10, ls]
            conv => lhs; whnf
            refine bind_some2 hm ?_; clear hm; intro y11 hy11 hm
            have hk12 : call false 27 [AV.sl 5 (List.map c_api_Node (v0_l)), AV.int .i64 (IntKind.i64.wrap (v1_i + 1)), AV.bool (true)] [] = some (AV.tup [AV.str ((y11).1), AV.int .i64 ((y11).2)], []) := (hc _ _ _).trans (ih_expr_shown v0_l (IntKind.i64.wrap (v1_i + 1)) true y11 hy11)
            try simp only [List.drop_zero, ls]
            first | simp only [hk12] | rewrite [hk12]
            try simp only [ls]
            conv => lhs; whnf
            refine bind_some2 hm ?_; clear hm; intro y13 hy13 hm
            have hk14 : call false 34 [AV.int .i64 (x1.f_Op)] [] = some (AV.str (y13), []) := (hc _ _ _).trans (ok_expr_sign n x1.f_Op y13 hy13)
            try simp only [List.drop_zero, ls]
            first | simp only [hk14] | rewrite [hk14]
            try simp only [ls]
            conv => lhs; whnf
            refine chk_some2 hm ?_; clear hm; intro hc15 hm
            refine bif_pos hc15 ?_
            try simp only [ls]
            conv => lhs; whnf
            have hq := Option.some.inj hm; clear hm; subst hq
            try simp only [ls]
            exact fq (y := some (AV.tup [AV.str ((y13 ++ ((y11).1))), AV.int .i64 ((y11).2)], []))
          · simp only [hc10, ls]
            conv => lhs; whnf
            refine bind_some2 hm ?_; clear hm; intro y16 hy16 hm
            have hk17 : call false 27 [AV.sl 5 (List.map c_api_Node (v0_l)), AV.int .i64 (IntKind.i64.wrap (v1_i + 1)), AV.bool (true)] [] = some (AV.tup [AV.str ((y16).1), AV.int .i64 ((y16).2)], []) := (hc _ _ _).trans (ih_expr_shown v0_l (IntKind.i64.wrap (v1_i + 1)) true y16 hy16)
            try simp only [List.drop_zero, ls]
            first | simp only [hk17] | rewrite [hk17]
            try simp only [ls]
            conv => lhs; whnf
            refine bind_some2 hm ?_; clear hm; intro y18 hy18 hm
            have hk19 : call false 27 [AV.sl 5 (List.map c_api_Node (v0_l)), AV.int .i64 ((y16).2), AV.bool (true)] [] = some (AV.tup [AV.str ((y18).1), AV.int .i64 ((y18).2)], []) := (hc _ _ _).trans (ih_expr_shown v0_l ((y16).2) true y18 hy18)
            try simp only [List.drop_zero, ls]
            first | simp only [hk19] | rewrite [hk19]
            try simp only [ls]
            conv => lhs; whnf
            refine chk_some2 hm ?_; clear hm; intro hc20 hm
            refine bif_pos hc20 ?_
            try simp only [ls]
            conv => lhs; whnf
            refine bind_some2 hm ?_; clear hm; intro y21 hy21 hm
            have hk22 : call false 34 [AV.int .i64 (x1.f_Op)] [] = some (AV.str (y21), []) := (hc _ _ _).trans (ok_expr_sign n x1.f_Op y21 hy21)
            try simp only [List.drop_zero, ls]
            first | simp only [hk22] | rewrite [hk22]
            try simp only [ls]
            conv => lhs; whnf
            refine chk_some2 hm ?_; clear hm; intro hc23 hm
            refine bif_pos hc23 ?_
            try simp only [ls]
            conv => lhs; whnf
            refine chk_some2 hm ?_; clear hm; intro hc24 hm
            refine bif_pos hc24 ?_
            try simp only [ls]
            conv => lhs; whnf
            refine chk_some2 hm ?_; clear hm; intro hc25 hm
            refine bif_pos hc25 ?_
            try simp only [ls]
            conv => lhs; whnf
            refine bif_or2 hm ?_ ?_ <;> clear hm <;> intro hc26 hm
            · simp only [hc26, ls]
              conv => lhs; whnf
              refine chk_some2 hm ?_; clear hm; intro hc27 hm
              refine bif_pos hc27 ?_
              try simp only [ls]
              conv => lhs; whnf
              refine chk_some2 hm ?_; clear hm; intro hc28 hm
              refine bif_pos hc28 ?_
              try simp only [ls]
              conv => lhs; whnf
              have hq := Option.some.inj hm; clear hm; subst hq
              try simp only [ls]
              exact fq (y := some (AV.tup [AV.str (((([40] : List UInt8) ++ ((((((y16).1) ++ ([32] : List UInt8)) ++ y21) ++ ([32] : List UInt8)) ++ ((y18).1))) ++ ([41] : List UInt8))), AV.int .i64 ((y18).2)], []))
            · simp only [hc26, ls]
              conv => lhs; whnf
              have hq := Option.some.inj hm; clear hm; subst hq
              try simp only [ls]
              exact fq (y := some (AV.tup [AV.str (((((((y16).1) ++ ([32] : List UInt8)) ++ y21) ++ ([32] : List UInt8)) ++ ((y18).1))), AV.int .i64 ((y18).2)], []))
theorem all_expr_shown (n : Nat) : OK_expr_shown n := by
  induction n with
  | zero => refine ?_ <;> (unfold OK_expr_shown; intros; rename_i hm; exact absurd hm (by intro h; cases h))
  | succ n ih =>
    exact st_expr_shown n ih
theorem ok_expr_shown (n : Nat) : OK_expr_shown n := all_expr_shown n

set_option maxHeartbeats 4000000 in
theorem ok_expr_Show (n : Nat) : ∀ (v0_l : (List S_api_Node)) (r : (List UInt8)), m_expr_Show n v0_l = some r → callN Try.prog HH XT n 14 [AV.sl 5 (List.map c_api_Node (v0_l))] [] = some (AV.str (r), []) := by
  cases n with
  | zero => intro v0_l r hm; exact absurd hm (by intro h; cases h)
  | succ n =>
    intro v0_l r hm
    rw [m_expr_Show] at hm
    refine callN_eq' Try.func14 (by rfl) rfl rfl (Nat.le_of_ble_eq_true rfl) ?_
    intro call hc
    conv => lhs; whnf
    refine bind_some2 hm ?_; clear hm; intro y1 hy1 hm
    have hk2 : call false 8 [AV.sl 5 (List.map c_api_Node (v0_l))] [] = some (AV.bool (y1), []) := (hc _ _ _).trans (ok_expr_Right n v0_l y1 hy1)
    try simp only [List.drop_zero, ls]
    first | simp only [hk2] | rewrite [hk2]
    try simp only [ls]
    conv => lhs; whnf
    refine bif_or2 hm ?_ ?_ <;> clear hm <;> intro hc3 hm
    · simp only [hc3, ls]
      conv => lhs; whnf
      refine bind_some2 hm ?_; clear hm; intro y4 hy4 hm
      have hk5 : call false 27 [AV.sl 5 (List.map c_api_Node (v0_l)), AV.int .i64 (0), AV.bool (false)] [] = some (AV.tup [AV.str ((y4).1), AV.int .i64 ((y4).2)], []) := (hc _ _ _).trans (ok_expr_shown n v0_l 0 false y4 hy4)
      try simp only [List.drop_zero, ls]
      first | simp only [hk5] | rewrite [hk5]
      try simp only [ls]
      conv => lhs; whnf
      have hq := Option.some.inj hm; clear hm; subst hq
      try simp only [ls]
      exact fq (y := some (AV.str ((y4).1), []))
    · simp only [hc3, ls]
      conv => lhs; whnf
      have hq := Option.some.inj hm; clear hm; subst hq
      try simp only [ls]
      exact fq (y := some (AV.str (([] : List UInt8)), []))
end Go.Proofs.Ytjobghbdfannfaa
end

section
namespace Go.Proofs.Ytjobghbdfannfaa
set_option linter.unusedVariables false
set_option linter.unusedSimpArgs false
set_option maxRecDepth 100000

set_option maxHeartbeats 4000000 in
theorem ok_ref01_gap (n : Nat) : ∀ (v0_s : (List UInt8)) (v1_at : Int) (r : Int), m_ref01_gap n v0_s v1_at = some r → callN Try.prog HH XT n 38 [AV.str (v0_s), AV.int .i64 (v1_at)] [] = some (AV.int .i64 (r), []) := by
  cases n with
  | zero => intro v0_s v1_at r hm; exact absurd hm (by intro h; cases h)
  | succ n =>
    intro v0_s v1_at r hm
    rw [m_ref01_gap] at hm
    refine callN_eq' Try.func38 (by rfl) rfl rfl (Nat.le_of_ble_eq_true rfl) ?_
    intro call hc
    conv => lhs; whnf
    refine bind_some2 hm ?_; clear hm; intro o9 ho9 hm
    refine rounds_sim (σ := Int) (τ := Int) (ν := Int) 0 (fun s1 a3 => stOf 53 [(0, AV.str (v0_s)), (1, AV.int .i64 (s1))]) (fun s1 a3 => []) (fun x37 a36 => stOf 53 [(1, AV.int .i64 (x37))]) (fun x37 a36 => []) (fun v => (AV.int .i64 (v), [])) (fun k s => ref01_gap_L0 n v0_s k s) (fun s => rfl) o9 ?_ n v1_at (fun _ => 0) _ _ ho9 ?_ (by first | rfl | (simp only [ls, List.map_append, List.map_cons, List.map_nil, List.append_nil, List.length_set, length_copyL] <;> rfl)) (by first | rfl | (simp only [ls, List.map_append, List.map_cons, List.map_nil, List.append_nil, List.length_set, length_copyL] <;> rfl))
    · intro k2 ss a3 K4 cont5 hK6 hcont7 hm hr8
      obtain ⟨s1, rfl⟩ : ∃ x, x = ss := ⟨_, rfl⟩
      replace hm : ref01_gap_L0 n v0_s (k2 + 1) s1 = some o9 := hm
      rw [ref01_gap_L0] at hm
      conv => lhs; whnf
      refine bif_or2 hm ?_ ?_ <;> clear hm <;> intro hc10 hm
      · simp only [hc10, ls]
        conv => lhs; whnf
        refine bind_some2 hm ?_; clear hm; intro x11 hx11 hm
        refine bif_pos (idx_in hx11) ?_
        simp only [idx_str hx11, ls]
        conv => lhs; whnf
        refine bif_or2 hm ?_ ?_ <;> clear hm <;> intro hc12 hm
        · simp only [hc12, ls]
          conv => lhs; whnf
          exact cq (hcont7 (IntKind.i64.wrap (s1 + 1)) (fun _ => 0) hm)
        · simp only [hc12, ls]
          conv => lhs; whnf
          refine bind_some2 hm ?_; clear hm; intro x13 hx13 hm
          refine bif_pos (idx_in hx13) ?_
          simp only [idx_str hx13, ls]
          conv => lhs; whnf
          refine bif_or2 hm ?_ ?_ <;> clear hm <;> intro hc14 hm
          · simp only [hc14, ls]
            conv => lhs; whnf
            exact cq (hcont7 (IntKind.i64.wrap (s1 + 1)) (fun _ => 0) hm)
          · simp only [hc14, ls]
            conv => lhs; whnf
            refine bind_some2 hm ?_; clear hm; intro x15 hx15 hm
            refine bif_pos (idx_in hx15) ?_
            simp only [idx_str hx15, ls]
            conv => lhs; whnf
            refine bif_or2 hm ?_ ?_ <;> clear hm <;> intro hc16 hm
            · simp only [hc16, ls]
              conv => lhs; whnf
              exact cq (hcont7 (IntKind.i64.wrap (s1 + 1)) (fun _ => 0) hm)
            · simp only [hc16, ls]
              conv => lhs; whnf
              refine bind_some2 hm ?_; clear hm; intro x17 hx17 hm
              refine bif_pos (idx_in hx17) ?_
              simp only [idx_str hx17, ls]
              conv => lhs; whnf
              refine bif_or2 hm ?_ ?_ <;> clear hm <;> intro hc18 hm
              · simp only [hc18, ls]
                conv => lhs; whnf
                exact cq (hcont7 (IntKind.i64.wrap (s1 + 1)) (fun _ => 0) hm)
              · simp only [hc18, ls]
                conv => lhs; whnf
                refine bind_some2 hm ?_; clear hm; intro x19 hx19 hm
                refine bif_pos (idx_in hx19) ?_
                simp only [idx_str hx19, ls]
                conv => lhs; whnf
                refine bif_or2 hm ?_ ?_ <;> clear hm <;> intro hc20 hm
                · simp only [hc20, ls]
                  conv => lhs; whnf
                  refine bind_some2 hm ?_; clear hm; intro o29 ho29 hm
                  refine rounds_sim (σ := Int) (τ := Int) (ν := Int) 3 (fun s21 a23 => stOf 53 [(0, AV.str (v0_s)), (1, AV.int .i64 (s21))]) (fun s21 a23 => []) (fun x34 a33 => stOf 53 [(0, AV.str (v0_s)), (1, AV.int .i64 (x34))]) (fun x34 a33 => []) (fun v => (AV.int .i64 (v), [])) (fun k s => ref01_gap_L1 n v0_s k s) (fun s => rfl) o29 ?_ n s1 (fun _ => 0) _ _ ho29 ?_ (by first | rfl | (simp only [ls, List.map_append, List.map_cons, List.map_nil, List.append_nil, List.length_set, length_copyL] <;> rfl)) (by first | rfl | (simp only [ls, List.map_append, List.map_cons, List.map_nil, List.append_nil, List.length_set, length_copyL] <;> rfl))
                  · intro k22 ss a23 K24 cont25 hK26 hcont27 hm hr28
                    obtain ⟨s21, rfl⟩ : ∃ x, x = ss := ⟨_, rfl⟩
                    replace hm : ref01_gap_L1 n v0_s (k22 + 1) s21 = some o29 := hm
                    rw [ref01_gap_L1] at hm
                    conv => lhs; whnf
                    refine bif_or2 hm ?_ ?_ <;> clear hm <;> intro hc30 hm
                    · simp only [hc30, ls]
                      conv => lhs; whnf
                      refine bind_some2 hm ?_; clear hm; intro x31 hx31 hm
                      refine bif_pos (idx_in hx31) ?_
                      simp only [idx_str hx31, ls]
                      conv => lhs; whnf
                      refine bif_or2 hm ?_ ?_ <;> clear hm <;> intro hc32 hm
                      · simp only [hc32, ls]
                        conv => lhs; whnf
                        exact cq (hcont27 (IntKind.i64.wrap (s21 + 1)) (fun _ => 0) hm)
                      · simp only [hc32, ls]
                        conv => lhs; whnf
                        have hq := Option.some.inj hm; clear hm; subst hq
                        exact kq (hr28 (fun _ => 0))
                    · simp only [hc30, ls]
                      conv => lhs; whnf
                      have hq := Option.some.inj hm; clear hm; subst hq
                      exact kq (hr28 (fun _ => 0))
                  · cases o29 with
                    | ret v =>
                      have hq := Option.some.inj hm; clear hm; subst hq
                      exact hr8
                    | out t =>
                      obtain ⟨x34, rfl⟩ : ∃ x, x = t := ⟨_, rfl⟩
                      intro a33
                      dsimp only at hm
                      conv => lhs; whnf
                      exact cq (hcont7 x34 (fun _ => 0) hm)
                · simp only [hc20, ls]
                  conv => lhs; whnf
                  have hq := Option.some.inj hm; clear hm; subst hq
                  refine (hK6 _ _).trans ?_
                  refine Eq.trans ?_ (Eq.symm (show _ = some _ from hr8))
                  conv => lhs; whnf
                  try simp only [ls]
                  exact fq (y := some (AV.int .i64 (s1), []))
      · simp only [hc10, ls]
        conv => lhs; whnf
        have hq := Option.some.inj hm; clear hm; subst hq
        exact kq (hr8 (fun _ => 0))
    · cases o9 with
      | ret v =>
        have hq := Option.some.inj hm; clear hm; subst hq
        rfl
      | out t =>
        obtain ⟨x37, rfl⟩ : ∃ x, x = t := ⟨_, rfl⟩
        intro a36
        dsimp only at hm
        conv => lhs; whnf
        have hq := Option.some.inj hm; clear hm; subst hq
        try simp only [ls]
        exact fq (y := some (AV.int .i64 (x37), []))

set_option maxHeartbeats 4000000 in
theorem ok_ref01_digit (n : Nat) : ∀ (v0_c : Int) (r : Bool), m_ref01_digit n v0_c = some r → callN Try.prog HH XT n 47 [AV.int .u8 (v0_c)] [] = some (AV.bool (r), []) := by
  cases n with
  | zero => intro v0_c r hm; exact absurd hm (by intro h; cases h)
  | succ n =>
    intro v0_c r hm
    rw [m_ref01_digit] at hm
    refine callN_eq' Try.func47 (by rfl) rfl rfl (Nat.le_of_ble_eq_true rfl) ?_
    intro call hc
    conv => lhs; whnf
    refine bif_or2 hm ?_ ?_ <;> clear hm <;> intro hc1 hm
    · simp only [hc1, ls]
      conv => lhs; whnf
      have hq := Option.some.inj hm; clear hm; subst hq
      try simp only [ls]
      exact fq (y := some (AV.bool (decide (v0_c ≤ 57)), []))
    · simp only [hc1, ls]
      conv => lhs; whnf
      have hq := Option.some.inj hm; clear hm; subst hq
      try simp only [ls]
      exact fq (y := some (AV.bool (false), []))

set_option maxHeartbeats 4000000 in
theorem ok_ref01_letter (n : Nat) : ∀ (v0_c : Int) (r : Bool), m_ref01_letter n v0_c = some r → callN Try.prog HH XT n 45 [AV.int .u8 (v0_c)] [] = some (AV.bool (r), []) := by
  cases n with
  | zero => intro v0_c r hm; exact absurd hm (by intro h; cases h)
  | succ n =>
    intro v0_c r hm
    rw [m_ref01_letter] at hm
    refine callN_eq' Try.func45 (by rfl) rfl rfl (Nat.le_of_ble_eq_true rfl) ?_
    intro call hc
    conv => lhs; whnf
    refine bif_or2 hm ?_ ?_ <;> clear hm <;> intro hc1 hm
    · simp only [hc1, ls]
      conv => lhs; whnf
      refine bif_or2 hm ?_ ?_ <;> clear hm <;> intro hc2 hm
      · simp only [hc2, ls]
        conv => lhs; whnf
        have hq := Option.some.inj hm; clear hm; subst hq
        try simp only [ls]
        exact fq (y := some (AV.bool (true), []))
      · simp only [hc2, ls]
        conv => lhs; whnf
        refine bif_or2 hm ?_ ?_ <;> clear hm <;> intro hc3 hm
        · simp only [hc3, ls]
          conv => lhs; whnf
          refine bif_or2 hm ?_ ?_ <;> clear hm <;> intro hc4 hm
          · simp only [hc4, ls]
            conv => lhs; whnf
            have hq := Option.some.inj hm; clear hm; subst hq
            try simp only [ls]
            exact fq (y := some (AV.bool (true), []))
          · simp only [hc4, ls]
            conv => lhs; whnf
            have hq := Option.some.inj hm; clear hm; subst hq
            try simp only [ls]
            exact fq (y := some (AV.bool ((v0_c == 95)), []))
        · simp only [hc3, ls]
          conv => lhs; whnf
          have hq := Option.some.inj hm; clear hm; subst hq
          try simp only [ls]
          exact fq (y := some (AV.bool ((v0_c == 95)), []))
    · simp only [hc1, ls]
      conv => lhs; whnf
      refine bif_or2 hm ?_ ?_ <;> clear hm <;> intro hc5 hm
      · simp only [hc5, ls]
        conv => lhs; whnf
        refine bif_or2 hm ?_ ?_ <;> clear hm <;> intro hc6 hm
        · simp only [hc6, ls]
          conv => lhs; whnf
          have hq := Option.some.inj hm; clear hm; subst hq
          try simp only [ls]
          exact fq (y := some (AV.bool (true), []))
        · simp only [hc6, ls]
          conv => lhs; whnf
          have hq := Option.some.inj hm; clear hm; subst hq
          try simp only [ls]
          exact fq (y := some (AV.bool ((v0_c == 95)), []))
      · simp only [hc5, ls]
        conv => lhs; whnf
        have hq := Option.some.inj hm; clear hm; subst hq
        try simp only [ls]
        exact fq (y := some (AV.bool ((v0_c == 95)), []))

set_option maxHeartbeats 4000000 in
theorem ok_ref01_signs (n : Nat) : ∀ (r : (List (List UInt8))), m_ref01_signs n = some r → callN Try.prog HH XT n 48 [] [] = some (AV.sl 1 (List.map encS (r)), []) := by
  cases n with
  | zero => intro r hm; exact absurd hm (by intro h; cases h)
  | succ n =>
    intro r hm
    rw [m_ref01_signs] at hm
    refine callN_eq' Try.func48 (by rfl) rfl rfl (Nat.le_of_ble_eq_true rfl) ?_
    intro call hc
    conv => lhs; whnf
    have hq := Option.some.inj hm; clear hm; subst hq
    try simp only [ls]
    exact fq (y := some (AV.sl 1 [[AV.str (([61, 61] : List UInt8))], [AV.str (([33, 61] : List UInt8))], [AV.str (([60, 61] : List UInt8))], [AV.str (([38, 38] : List UInt8))], [AV.str (([124, 124] : List UInt8))], [AV.str (([59] : List UInt8))], [AV.str (([44] : List UInt8))], [AV.str (([123] : List UInt8))], [AV.str (([125] : List UInt8))], [AV.str (([40] : List UInt8))], [AV.str (([41] : List UInt8))], [AV.str (([46] : List UInt8))], [AV.str (([61] : List UInt8))], [AV.str (([43] : List UInt8))], [AV.str (([45] : List UInt8))], [AV.str (([42] : List UInt8))], [AV.str (([33] : List UInt8))], [AV.str (([60] : List UInt8))]], []))

set_option maxHeartbeats 4000000 in
theorem ok_ref01_one (n : Nat) : ∀ (v0_s : (List UInt8)) (v1_at : Int) (r : (S_api_Token × Int)), m_ref01_one n v0_s v1_at = some r → callN Try.prog HH XT n 39 [AV.str (v0_s), AV.int .i64 (v1_at)] [] = some (AV.tup [AV.agg [AV.int .i64 ((r).1.f_Kind), AV.str ((r).1.f_Text), AV.int .i64 ((r).1.f_N), AV.int .i64 ((r).1.f_At)], AV.int .i64 ((r).2)], []) := by
  cases n with
  | zero => intro v0_s v1_at r hm; exact absurd hm (by intro h; cases h)
  | succ n =>
    intro v0_s v1_at r hm
    rw [m_ref01_one] at hm
    refine callN_eq' Try.func39 (by rfl) rfl rfl (Nat.le_of_ble_eq_true rfl) ?_
    intro call hc
    conv => lhs; whnf
    refine bind_some2 hm ?_; clear hm; intro o9 ho9 hm
    refine rounds_sim (σ := Int) (τ := Int) (ν := (S_api_Token × Int)) 0 (fun s1 a3 => stOf 119 [(0, AV.str (v0_s)), (1, AV.int .i64 (v1_at)), (4, AV.ptr 0 0), (6, AV.int .i64 (s1))]) (fun s1 a3 => [Ob.var 51 [AV.int .i64 (0), AV.str (([] : List UInt8)), AV.int .i64 (0), AV.int .i64 (0)]]) (fun x21 a20 => stOf 119 [(0, AV.str (v0_s)), (1, AV.int .i64 (v1_at)), (4, AV.ptr 0 0), (6, AV.int .i64 (x21))]) (fun x21 a20 => [Ob.var 51 [AV.int .i64 (0), AV.str (([] : List UInt8)), AV.int .i64 (0), AV.int .i64 (0)]]) (fun v => (AV.tup [AV.agg [AV.int .i64 ((v).1.f_Kind), AV.str ((v).1.f_Text), AV.int .i64 ((v).1.f_N), AV.int .i64 ((v).1.f_At)], AV.int .i64 ((v).2)], [])) (fun k s => ref01_one_L0 n v0_s v1_at k s) (fun s => rfl) o9 ?_ n v1_at (fun _ => 0) _ _ ho9 ?_ (by first | rfl | (simp only [ls, List.map_append, List.map_cons, List.map_nil, List.append_nil, List.length_set, length_copyL] <;> rfl)) (by first | rfl | (simp only [ls, List.map_append, List.map_cons, List.map_nil, List.append_nil, List.length_set, length_copyL] <;> rfl))
    · intro k2 ss a3 K4 cont5 hK6 hcont7 hm hr8
      obtain ⟨s1, rfl⟩ : ∃ x, x = ss := ⟨_, rfl⟩
      replace hm : ref01_one_L0 n v0_s v1_at (k2 + 1) s1 = some o9 := hm
      rw [ref01_one_L0] at hm
      conv => lhs; whnf
      refine bif_or2 hm ?_ ?_ <;> clear hm <;> intro hc10 hm
      · simp only [hc10, ls]
        conv => lhs; whnf
        refine bind_some2 hm ?_; clear hm; intro x11 hx11 hm
        refine bif_pos (idx_in hx11) ?_
        simp only [idx_str hx11, ls]
        conv => lhs; whnf
        refine bind_some2 hm ?_; clear hm; intro y12 hy12 hm
        have hk13 : call false 45 [AV.int .u8 (((x11).toNat : Int))] [] = some (AV.bool (y12), []) := (hc _ _ _).trans (ok_ref01_letter n ((x11).toNat : Int) y12 hy12)
        try simp only [List.drop_zero, ls]
        first | simp only [hk13] | rewrite [hk13]
        try simp only [ls]
        conv => lhs; whnf
        refine bif_or2 hm ?_ ?_ <;> clear hm <;> intro hc14 hm
        · simp only [hc14, ls]
          conv => lhs; whnf
          exact cq (hcont7 (IntKind.i64.wrap (s1 + 1)) (fun _ => 0) hm)
        · simp only [hc14, ls]
          conv => lhs; whnf
          refine bif_or2 hm ?_ ?_ <;> clear hm <;> intro hc15 hm
          · simp only [hc15, ls]
            conv => lhs; whnf
            refine bind_some2 hm ?_; clear hm; intro x16 hx16 hm
            refine bif_pos (idx_in hx16) ?_
            simp only [idx_str hx16, ls]
            conv => lhs; whnf
            refine bind_some2 hm ?_; clear hm; intro y17 hy17 hm
            have hk18 : call false 47 [AV.int .u8 (((x16).toNat : Int))] [] = some (AV.bool (y17), []) := (hc _ _ _).trans (ok_ref01_digit n ((x16).toNat : Int) y17 hy17)
            try simp only [List.drop_zero, ls]
            first | simp only [hk18] | rewrite [hk18]
            try simp only [ls]
            conv => lhs; whnf
            refine bif_or2 hm ?_ ?_ <;> clear hm <;> intro hc19 hm
            · simp only [hc19, ls]
              conv => lhs; whnf
              exact cq (hcont7 (IntKind.i64.wrap (s1 + 1)) (fun _ => 0) hm)
            · simp only [hc19, ls]
              conv => lhs; whnf
              have hq := Option.some.inj hm; clear hm; subst hq
              exact kq (hr8 (fun _ => 0))
          · simp only [hc15, ls]
            conv => lhs; whnf
            have hq := Option.some.inj hm; clear hm; subst hq
            exact kq (hr8 (fun _ => 0))
      · simp only [hc10, ls]
        conv => lhs; whnf
        have hq := Option.some.inj hm; clear hm; subst hq
        exact kq (hr8 (fun _ => 0))
    · cases o9 with
      | ret v =>
        have hq := Option.some.inj hm; clear hm; subst hq
        rfl
      | out t =>
        obtain ⟨x21, rfl⟩ : ∃ x, x = t := ⟨_, rfl⟩
        intro a20
        dsimp only at hm
        conv => lhs; whnf
        refine bif_or2 hm ?_ ?_ <;> clear hm <;> intro hc22 hm
        · simp only [hc22, ls]
          conv => lhs; whnf
          refine bif_or2 hm ?_ ?_ <;> clear hm <;> intro hc23 hm
          · simp only [hc23, ls]
            conv => lhs; whnf
            have hq := Option.some.inj hm; clear hm; subst hq
            try simp only [ls]
            exact fq (y := some (AV.tup [AV.agg [AV.int .i64 (0), AV.str (([] : List UInt8)), AV.int .i64 (0), AV.int .i64 (0)], AV.int .i64 (2)], []))
          · simp only [hc23, ls]
            conv => lhs; whnf
            refine chk_some2 hm ?_; clear hm; intro hc24 hm
            refine bif_pos hc24 ?_
            try simp only [ls]
            conv => lhs; whnf
            have hq := Option.some.inj hm; clear hm; subst hq
            try simp only [ls]
            exact fq (y := some (AV.tup [AV.agg [AV.int .i64 (1), AV.str ((List.drop ((v1_at).toNat) (List.take ((x21).toNat) v0_s))), AV.int .i64 (0), AV.int .i64 (v1_at)], AV.int .i64 (0)], []))
        · simp only [hc22, ls]
          conv => lhs; whnf
          refine bind_some2 hm ?_; clear hm; intro o34 ho34 hm
          refine rounds_sim (σ := (Int × Int)) (τ := (Int × Int)) (ν := (S_api_Token × Int)) 2 (fun (s25, s26) a28 => stOf 119 [(0, AV.str (v0_s)), (1, AV.int .i64 (v1_at)), (4, AV.ptr 0 0), (6, AV.int .i64 (s25)), (7, AV.int .i64 (s26))]) (fun (s25, s26) a28 => [Ob.var 51 [AV.int .i64 (0), AV.str (([] : List UInt8)), AV.int .i64 (0), AV.int .i64 (0)]]) (fun (x42, x43) a41 => stOf 119 [(0, AV.str (v0_s)), (1, AV.int .i64 (v1_at)), (4, AV.ptr 0 0), (6, AV.int .i64 (x42)), (7, AV.int .i64 (x43))]) (fun (x42, x43) a41 => [Ob.var 51 [AV.int .i64 (0), AV.str (([] : List UInt8)), AV.int .i64 (0), AV.int .i64 (0)]]) (fun v => (AV.tup [AV.agg [AV.int .i64 ((v).1.f_Kind), AV.str ((v).1.f_Text), AV.int .i64 ((v).1.f_N), AV.int .i64 ((v).1.f_At)], AV.int .i64 ((v).2)], [])) (fun k s => ref01_one_L1 n v0_s k ((s).1) ((s).2)) (fun s => rfl) o34 ?_ n (x21, 0) (fun _ => 0) _ _ ho34 ?_ (by first | rfl | (simp only [ls, List.map_append, List.map_cons, List.map_nil, List.append_nil, List.length_set, length_copyL] <;> rfl)) (by first | rfl | (simp only [ls, List.map_append, List.map_cons, List.map_nil, List.append_nil, List.length_set, length_copyL] <;> rfl))
          · intro k27 ss a28 K29 cont30 hK31 hcont32 hm hr33
            obtain ⟨s25, s26⟩ := ss
            replace hm : ref01_one_L1 n v0_s (k27 + 1) s25 s26 = some o34 := hm
            rw [ref01_one_L1] at hm
            conv => lhs; whnf
            refine bif_or2 hm ?_ ?_ <;> clear hm <;> intro hc35 hm
            · simp only [hc35, ls]
              conv => lhs; whnf
              refine bind_some2 hm ?_; clear hm; intro x36 hx36 hm
              refine bif_pos (idx_in hx36) ?_
              simp only [idx_str hx36, ls]
              conv => lhs; whnf
              refine bind_some2 hm ?_; clear hm; intro y37 hy37 hm
              have hk38 : call false 47 [AV.int .u8 (((x36).toNat : Int))] [] = some (AV.bool (y37), []) := (hc _ _ _).trans (ok_ref01_digit n ((x36).toNat : Int) y37 hy37)
              try simp only [List.drop_zero, ls]
              first | simp only [hk38] | rewrite [hk38]
              try simp only [ls]
              conv => lhs; whnf
              refine bif_or2 hm ?_ ?_ <;> clear hm <;> intro hc39 hm
              · simp only [hc39, ls]
                conv => lhs; whnf
                refine bind_some2 hm ?_; clear hm; intro x40 hx40 hm
                refine bif_pos (idx_in hx40) ?_
                simp only [idx_str hx40, ls]
                conv => lhs; whnf
                exact cq (hcont32 (IntKind.i64.wrap (s25 + 1), (if 10000 < (IntKind.i64.wrap ((IntKind.i64.wrap (10 * s26)) + (IntKind.i64.wrap (IntKind.u8.wrap (((x40).toNat : Int) - 48))))) then 10000 else (IntKind.i64.wrap ((IntKind.i64.wrap (10 * s26)) + (IntKind.i64.wrap (IntKind.u8.wrap (((x40).toNat : Int) - 48))))))) (fun _ => 0) hm)
              · simp only [hc39, ls]
                conv => lhs; whnf
                have hq := Option.some.inj hm; clear hm; subst hq
                exact kq (hr33 (fun _ => 0))
            · simp only [hc35, ls]
              conv => lhs; whnf
              have hq := Option.some.inj hm; clear hm; subst hq
              exact kq (hr33 (fun _ => 0))
          · cases o34 with
            | ret v =>
              have hq := Option.some.inj hm; clear hm; subst hq
              rfl
            | out t =>
              obtain ⟨x42, x43⟩ := t
              intro a41
              dsimp only at hm
              conv => lhs; whnf
              refine bif_or2 hm ?_ ?_ <;> clear hm <;> intro hc44 hm
              · simp only [hc44, ls]
                conv => lhs; whnf
                refine bif_or2 hm ?_ ?_ <;> clear hm <;> intro hc45 hm
                · simp only [hc45, ls]
                  conv => lhs; whnf
                  have hq := Option.some.inj hm; clear hm; subst hq
                  try simp only [ls]
                  exact fq (y := some (AV.tup [AV.agg [AV.int .i64 (0), AV.str (([] : List UInt8)), AV.int .i64 (0), AV.int .i64 (0)], AV.int .i64 (4)], []))
                · simp only [hc45, ls]
                  conv => lhs; whnf
                  refine chk_some2 hm ?_; clear hm; intro hc46 hm
                  refine bif_pos hc46 ?_
                  try simp only [ls]
                  conv => lhs; whnf
                  have hq := Option.some.inj hm; clear hm; subst hq
                  try simp only [ls]
                  exact fq (y := some (AV.tup [AV.agg [AV.int .i64 (2), AV.str ((List.drop ((v1_at).toNat) (List.take ((x42).toNat) v0_s))), AV.int .i64 (x43), AV.int .i64 (v1_at)], AV.int .i64 (0)], []))
              · simp only [hc44, ls]
                conv => lhs; whnf
                refine bind_some2 hm ?_; clear hm; intro y47 hy47 hm
                have hk48 : call false 48 [] [] = some (AV.sl 1 (List.map encS (y47)), []) := (hc _ _ _).trans (ok_ref01_signs n  y47 hy47)
                try simp only [List.drop_zero, ls]
                first | simp only [hk48] | rewrite [hk48]
                try simp only [ls]
                conv => lhs; whnf
                refine bind_some2 hm ?_; clear hm; intro o57 ho57 hm
                refine rounds_sim (σ := Int) (τ := Unit) (ν := (S_api_Token × Int)) 4 (fun s49 a51 => stOf 119 [(0, AV.str (v0_s)), (1, AV.int .i64 (v1_at)), (4, AV.ptr 0 0), (8, AV.sl 1 (List.map encS (y47))), (9, AV.int .i64 (s49))]) (fun s49 a51 => [Ob.var 51 [AV.int .i64 (0), AV.str (([] : List UInt8)), AV.int .i64 (0), AV.int .i64 (0)]]) (fun _ a65 => stOf 119 [(4, AV.ptr 0 0)]) (fun _ a65 => [Ob.var 51 [AV.int .i64 (0), AV.str (([] : List UInt8)), AV.int .i64 (0), AV.int .i64 (0)]]) (fun v => (AV.tup [AV.agg [AV.int .i64 ((v).1.f_Kind), AV.str ((v).1.f_Text), AV.int .i64 ((v).1.f_N), AV.int .i64 ((v).1.f_At)], AV.int .i64 ((v).2)], [])) (fun k s => ref01_one_L2 n v0_s v1_at y47 k s) (fun s => rfl) o57 ?_ n 0 (fun _ => 0) _ _ ho57 ?_ (by first | rfl | (simp only [ls, List.map_append, List.map_cons, List.map_nil, List.append_nil, List.length_set, length_copyL] <;> rfl)) (by first | rfl | (simp only [ls, List.map_append, List.map_cons, List.map_nil, List.append_nil, List.length_set, length_copyL] <;> rfl))
                · intro k50 ss a51 K52 cont53 hK54 hcont55 hm hr56
                  obtain ⟨s49, rfl⟩ : ∃ x, x = ss := ⟨_, rfl⟩
                  replace hm : ref01_one_L2 n v0_s v1_at y47 (k50 + 1) s49 = some o57 := hm
                  rw [ref01_one_L2] at hm
                  conv => lhs; whnf
                  refine bif_or2 hm ?_ ?_ <;> clear hm <;> intro hc58 hm
                  · simp only [hc58, ls]
                    conv => lhs; whnf
                    refine bind_some2 hm ?_; clear hm; intro x59 hx59 hm
                    refine bif_pos (by first | exact idx_in hx59 | exact idx_in' hx59) ?_
                    simp only [idx_nth (f := encS) hx59, ls]
                    conv => lhs; whnf
                    refine bif_or2 hm ?_ ?_ <;> clear hm <;> intro hc60 hm
                    · simp only [hc60, ls]
                      conv => lhs; whnf
                      refine chk_some2 hm ?_; clear hm; intro hc61 hm
                      refine bif_pos hc61 ?_
                      try simp only [ls]
                      conv => lhs; whnf
                      refine bind_some2 hm ?_; clear hm; intro x62 hx62 hm
                      refine bif_pos (by first | exact idx_in hx62 | exact idx_in' hx62) ?_
                      simp only [idx_nth (f := encS) hx62, ls]
                      conv => lhs; whnf
                      refine bif_or2 hm ?_ ?_ <;> clear hm <;> intro hc63 hm
                      · simp only [hc63, ls]
                        conv => lhs; whnf
                        refine bind_some2 hm ?_; clear hm; intro x64 hx64 hm
                        refine bif_pos (by first | exact idx_in hx64 | exact idx_in' hx64) ?_
                        simp only [idx_nth (f := encS) hx64, ls]
                        conv => lhs; whnf
                        have hq := Option.some.inj hm; clear hm; subst hq
                        refine (hK54 _ _).trans ?_
                        refine Eq.trans ?_ (Eq.symm (show _ = some _ from hr56))
                        conv => lhs; whnf
                        try simp only [ls]
                        exact fq (y := some (AV.tup [AV.agg [AV.int .i64 (3), AV.str (x64), AV.int .i64 (0), AV.int .i64 (v1_at)], AV.int .i64 (0)], []))
                      · simp only [hc63, ls]
                        conv => lhs; whnf
                        exact cq (hcont55 (IntKind.i64.wrap (s49 + 1)) (fun _ => 0) hm)
                    · simp only [hc60, ls]
                      conv => lhs; whnf
                      exact cq (hcont55 (IntKind.i64.wrap (s49 + 1)) (fun _ => 0) hm)
                  · simp only [hc58, ls]
                    conv => lhs; whnf
                    have hq := Option.some.inj hm; clear hm; subst hq
                    exact kq (hr56 (fun _ => 0))
                · cases o57 with
                  | ret v =>
                    have hq := Option.some.inj hm; clear hm; subst hq
                    rfl
                  | out t =>
                    intro a65
                    dsimp only at hm
                    conv => lhs; whnf
                    have hq := Option.some.inj hm; clear hm; subst hq
                    try simp only [ls]
                    exact fq (y := some (AV.tup [AV.agg [AV.int .i64 (0), AV.str (([] : List UInt8)), AV.int .i64 (0), AV.int .i64 (0)], AV.int .i64 (3)], []))

set_option maxHeartbeats 4000000 in
theorem ok_ref01_Scan (n : Nat) : ∀ (v0_s : (List UInt8)) (r : ((List S_api_Token) × Int × Int)), m_ref01_Scan n v0_s = some r → callN Try.prog HH XT n 29 [AV.str (v0_s)] [] = some (AV.tup [AV.sl 4 (List.map c_api_Token ((r).1)), AV.int .i64 ((r).2.1), AV.int .i64 ((r).2.2)], []) := by
  cases n with
  | zero => intro v0_s r hm; exact absurd hm (by intro h; cases h)
  | succ n =>
    intro v0_s r hm
    rw [m_ref01_Scan] at hm
    refine callN_eq' Try.func29 (by rfl) rfl rfl (Nat.le_of_ble_eq_true rfl) ?_
    intro call hc
    conv => lhs; whnf
    refine bif_or2 hm ?_ ?_ <;> clear hm <;> intro hc1 hm
    · simp only [hc1, ls]
      conv => lhs; whnf
      have hq := Option.some.inj hm; clear hm; subst hq
      try simp only [ls]
      exact fq (y := some (AV.tup [AV.sl 4 [], AV.int .i64 (2), AV.int .i64 (20000)], []))
    · simp only [hc1, ls]
      conv => lhs; whnf
      refine bind_some2 hm ?_; clear hm; intro y2 hy2 hm
      have hk3 : call false 38 [AV.str (v0_s), AV.int .i64 (0)] [] = some (AV.int .i64 (y2), []) := (hc _ _ _).trans (ok_ref01_gap n v0_s 0 y2 hy2)
      try simp only [List.drop_zero, ls]
      first | simp only [hk3] | rewrite [hk3]
      try simp only [ls]
      conv => lhs; whnf
      refine bind_some2 hm ?_; clear hm; intro o13 ho13 hm
      refine rounds_sim (σ := (Int × (List S_api_Token))) (τ := (List S_api_Token)) (ν := ((List S_api_Token) × Int × Int)) 0 (fun (s4, s5) a7 => stOf 40 [(0, AV.str (v0_s)), (5, AV.row 0 (List.length (s5))), (6, AV.int .i64 (s4))]) (fun (s4, s5) a7 => [Ob.row 51 4 (List.map c_api_Token (s5))]) (fun x24 a23 => stOf 40 [(5, AV.row 0 (List.length (x24)))]) (fun x24 a23 => [Ob.row 51 4 (List.map c_api_Token (x24))]) (fun v => (AV.tup [AV.sl 4 (List.map c_api_Token ((v).1)), AV.int .i64 ((v).2.1), AV.int .i64 ((v).2.2)], [])) (fun k s => ref01_Scan_L0 n v0_s k ((s).1) ((s).2)) (fun s => rfl) o13 ?_ n (y2, ([] : List S_api_Token)) (fun _ => 0) _ _ ho13 ?_ (by first | rfl | (simp only [ls, List.map_append, List.map_cons, List.map_nil, List.append_nil, List.length_set, length_copyL] <;> rfl)) (by first | rfl | (simp only [ls, List.map_append, List.map_cons, List.map_nil, List.append_nil, List.length_set, length_copyL] <;> rfl))
      · intro k6 ss a7 K8 cont9 hK10 hcont11 hm hr12
        obtain ⟨s4, s5⟩ := ss
        replace hm : ref01_Scan_L0 n v0_s (k6 + 1) s4 s5 = some o13 := hm
        rw [ref01_Scan_L0] at hm
        conv => lhs; whnf
        refine bif_or2 hm ?_ ?_ <;> clear hm <;> intro hc14 hm
        · simp only [hc14, ls]
          conv => lhs; whnf
          refine bind_some2 hm ?_; clear hm; intro y15 hy15 hm
          have hk16 : call false 39 [AV.str (v0_s), AV.int .i64 (s4)] [] = some (AV.tup [AV.agg [AV.int .i64 ((y15).1.f_Kind), AV.str ((y15).1.f_Text), AV.int .i64 ((y15).1.f_N), AV.int .i64 ((y15).1.f_At)], AV.int .i64 ((y15).2)], []) := (hc _ _ _).trans (ok_ref01_one n v0_s s4 y15 hy15)
          try simp only [List.drop_zero, ls]
          first | simp only [hk16] | rewrite [hk16]
          try simp only [ls]
          conv => lhs; whnf
          refine bif_or2 hm ?_ ?_ <;> clear hm <;> intro hc17 hm
          · simp only [hc17, ls]
            conv => lhs; whnf
            have hq := Option.some.inj hm; clear hm; subst hq
            refine (hK10 _ _).trans ?_
            refine Eq.trans ?_ (Eq.symm (show _ = some _ from hr12))
            conv => lhs; whnf
            try simp only [ls]
            exact fq (y := some (AV.tup [AV.sl 4 [], AV.int .i64 ((y15).2), AV.int .i64 (s4)], []))
          · simp only [hc17, ls]
            conv => lhs; whnf
            refine chk_some2 hm ?_; clear hm; intro hc20 hm
            refine bif_pos (app_row hc20 (by first | rfl | simp only [List.length_map]) (by first | rfl | simp only [List.length_map]) (by first | rfl | simp only [List.length_map, take_map_len]) (by kernel_rfl)) ?_
            try simp only [lt]
            have hp18 : (List.map c_api_Token (s5) : List (List AV)) ++ [[AV.int .i64 ((y15).1.f_Kind), AV.str ((y15).1.f_Text), AV.int .i64 ((y15).1.f_N), AV.int .i64 ((y15).1.f_At)]] = List.map c_api_Token (s5 ++ ([(y15).1] : List S_api_Token)) := by first | rfl | (rw [List.map_append]; rfl) | (rw [List.map_append]; done) | (simp only [List.map_append, List.map_cons, List.map_nil, List.nil_append, c_api_Token] <;> rfl)
            have hl19 : List.length (List.map c_api_Token (s5) : List (List AV)) + List.length ([[AV.int .i64 ((y15).1.f_Kind), AV.str ((y15).1.f_Text), AV.int .i64 ((y15).1.f_N), AV.int .i64 ((y15).1.f_At)]] : List (List AV)) = List.length (s5 ++ ([(y15).1] : List S_api_Token)) := by simp only [List.length_map, List.length_append] <;> rfl
            have hl19_b : List.length s5 + List.length ([[AV.int .i64 ((y15).1.f_Kind), AV.str ((y15).1.f_Text), AV.int .i64 ((y15).1.f_N), AV.int .i64 ((y15).1.f_At)]] : List (List AV)) = List.length (s5 ++ ([(y15).1] : List S_api_Token)) := by simp only [List.length_map, List.length_append] <;> rfl
            have hl19_c : List.length s5 + List.length ([(y15).1] : List S_api_Token) = List.length (s5 ++ ([(y15).1] : List S_api_Token)) := by simp only [List.length_map, List.length_append] <;> rfl
            first | simp only [hp18, hl19] | (simp only [List.length_map, take_map_len]; simp only [hp18, hl19_b, hl19_c])
            try simp only [ls]
            conv => lhs; whnf
            refine bind_some2 hm ?_; clear hm; intro y21 hy21 hm
            have hk22 : call false 38 [AV.str (v0_s), AV.int .i64 (IntKind.i64.wrap (s4 + ((((y15).1.f_Text).length : Nat) : Int)))] [] = some (AV.int .i64 (y21), []) := (hc _ _ _).trans (ok_ref01_gap n v0_s (IntKind.i64.wrap (s4 + ((((y15).1.f_Text).length : Nat) : Int))) y21 hy21)
            try simp only [List.drop_zero, ls]
            first | simp only [hk22] | rewrite [hk22]
            try simp only [ls]
            conv => lhs; whnf
            exact cq (hcont11 (y21, (s5 ++ ([(y15).1] : List S_api_Token))) (fun _ => 0) hm)
        · simp only [hc14, ls]
          conv => lhs; whnf
          have hq := Option.some.inj hm; clear hm; subst hq
          exact kq (hr12 (fun _ => 0))
      · cases o13 with
        | ret v =>
          have hq := Option.some.inj hm; clear hm; subst hq
          rfl
        | out t =>
          obtain ⟨x24, rfl⟩ : ∃ x, x = t := ⟨_, rfl⟩
          intro a23
          dsimp only at hm
          conv => lhs; whnf
          have hq := Option.some.inj hm; clear hm; subst hq
          try simp only [ls]
          exact fq (y := some (AV.tup [AV.sl 4 (List.take (List.length (x24)) (List.map c_api_Token (x24))), AV.int .i64 (0), AV.int .i64 (0)], []))

end Go.Proofs.Ytjobghbdfannfaa
end

section
namespace Go.Proofs.Ytjobghbdfannfaa
set_option linter.unusedVariables false
set_option linter.unusedSimpArgs false
set_option maxRecDepth 100000

set_option maxHeartbeats 4000000 in
theorem ok_law02_tokens (n : Nat) : ∀ (v0_s : (List UInt8)) (r : (List S_api_Token)), m_law02_tokens n v0_s = some r → callN Try.prog HH XT n 19 [AV.str (v0_s)] [] = some (AV.sl 4 (List.map c_api_Token (r)), []) := by
  cases n with
  | zero => intro v0_s r hm; exact absurd hm (by intro h; cases h)
  | succ n =>
    intro v0_s r hm
    rw [m_law02_tokens] at hm
    refine callN_eq' Try.func19 (by rfl) rfl rfl (Nat.le_of_ble_eq_true rfl) ?_
    intro call hc
    conv => lhs; whnf
    refine bind_some2 hm ?_; clear hm; intro y1 hy1 hm
    have hk2 : call false 29 [AV.str (v0_s)] [] = some (AV.tup [AV.sl 4 (List.map c_api_Token ((y1).1)), AV.int .i64 ((y1).2.1), AV.int .i64 ((y1).2.2)], []) := (hc _ _ _).trans (ok_ref01_Scan n v0_s y1 hy1)
    try simp only [List.drop_zero, ls]
    first | simp only [hk2] | rewrite [hk2]
    try simp only [ls]
    conv => lhs; whnf
    have hq := Option.some.inj hm; clear hm; subst hq
    try simp only [ls]
    exact fq (y := some (AV.sl 4 (List.map c_api_Token ((y1).1)), []))
end Go.Proofs.Ytjobghbdfannfaa
end

section
namespace Go.Proofs.Ytjobghbdfannfaa
set_option linter.unusedVariables false
set_option linter.unusedSimpArgs false
set_option maxRecDepth 100000

set_option maxHeartbeats 4000000 in
theorem ok_ref02_Same (n : Nat) : ∀ (v0_a : (List S_api_Node)) (v1_b : (List S_api_Node)) (v2_places : Bool) (r : Bool), m_ref02_Same n v0_a v1_b v2_places = some r → callN Try.prog HH XT n 16 [AV.sl 5 (List.map c_api_Node (v0_a)), AV.sl 5 (List.map c_api_Node (v1_b)), AV.bool (v2_places)] [] = some (AV.bool (r), []) := by
  cases n with
  | zero => intro v0_a v1_b v2_places r hm; exact absurd hm (by intro h; cases h)
  | succ n =>
    intro v0_a v1_b v2_places r hm
    rw [m_ref02_Same] at hm
    refine callN_eq' Try.func16 (by rfl) rfl rfl (Nat.le_of_ble_eq_true rfl) ?_
    intro call hc
    conv => lhs; whnf
    refine bif_or2 hm ?_ ?_ <;> clear hm <;> intro hc1 hm
    · simp only [hc1, ls]
      conv => lhs; whnf
      have hq := Option.some.inj hm; clear hm; subst hq
      try simp only [ls]
      exact fq (y := some (AV.bool (false), []))
    · simp only [hc1, ls]
      conv => lhs; whnf
      refine bind_some2 hm ?_; clear hm; intro o11 ho11 hm
      refine rounds_sim (σ := (Bool × Int)) (τ := Unit) (ν := Bool) 0 (fun (s2, s3) a5 => stOf 85 [(0, AV.sl 5 (List.map c_api_Node (v0_a))), (1, AV.sl 5 (List.map c_api_Node (v1_b))), (2, AV.bool (s2)), (7, AV.int .i64 (s3))]) (fun (s2, s3) a5 => []) (fun _ a29 => stOf 85 []) (fun _ a29 => []) (fun v => (AV.bool (v), [])) (fun k s => ref02_Same_L0 n v0_a v1_b k ((s).1) ((s).2)) (fun s => rfl) o11 ?_ n (v2_places, 0) (fun _ => 0) _ _ ho11 ?_ (by first | rfl | (simp only [ls, List.map_append, List.map_cons, List.map_nil, List.append_nil, List.length_set, length_copyL] <;> rfl)) (by first | rfl | (simp only [ls, List.map_append, List.map_cons, List.map_nil, List.append_nil, List.length_set, length_copyL] <;> rfl))
      · intro k4 ss a5 K6 cont7 hK8 hcont9 hm hr10
        obtain ⟨s2, s3⟩ := ss
        replace hm : ref02_Same_L0 n v0_a v1_b (k4 + 1) s2 s3 = some o11 := hm
        rw [ref02_Same_L0] at hm
        conv => lhs; whnf
        refine bif_or2 hm ?_ ?_ <;> clear hm <;> intro hc12 hm
        · simp only [hc12, ls]
          conv => lhs; whnf
          refine bind_some2 hm ?_; clear hm; intro x13 hx13 hm
          refine bif_pos (by first | exact idx_in hx13 | exact idx_in' hx13) ?_
          simp only [idx_nth (f := c_api_Node) hx13, ls]
          conv => lhs; whnf
          refine bind_some2 hm ?_; clear hm; intro x14 hx14 hm
          refine bif_pos (by first | exact idx_in hx14 | exact idx_in' hx14) ?_
          simp only [idx_nth (f := c_api_Node) hx14, ls]
          conv => lhs; whnf
          refine bif_or2 hm ?_ ?_ <;> clear hm <;> intro hc15 hm
          · simp only [hc15, ls]
            conv => lhs; whnf
            have hq := Option.some.inj hm; clear hm; subst hq
            refine (hK8 _ _).trans ?_
            refine Eq.trans ?_ (Eq.symm (show _ = some _ from hr10))
            conv => lhs; whnf
            try simp only [ls]
            exact fq (y := some (AV.bool (false), []))
          · simp only [hc15, ls]
            conv => lhs; whnf
            refine bind_some2 hm ?_; clear hm; intro x16 hx16 hm
            refine bif_pos (by first | exact idx_in hx16 | exact idx_in' hx16) ?_
            simp only [idx_nth (f := c_api_Node) hx16, ls]
            conv => lhs; whnf
            refine bind_some2 hm ?_; clear hm; intro x17 hx17 hm
            refine bif_pos (by first | exact idx_in hx17 | exact idx_in' hx17) ?_
            simp only [idx_nth (f := c_api_Node) hx17, ls]
            conv => lhs; whnf
            refine bif_or2 hm ?_ ?_ <;> clear hm <;> intro hc18 hm
            · simp only [hc18, ls]
              conv => lhs; whnf
              have hq := Option.some.inj hm; clear hm; subst hq
              refine (hK8 _ _).trans ?_
              refine Eq.trans ?_ (Eq.symm (show _ = some _ from hr10))
              conv => lhs; whnf
              try simp only [ls]
              exact fq (y := some (AV.bool (false), []))
            · simp only [hc18, ls]
              conv => lhs; whnf
              refine bind_some2 hm ?_; clear hm; intro x19 hx19 hm
              refine bif_pos (by first | exact idx_in hx19 | exact idx_in' hx19) ?_
              simp only [idx_nth (f := c_api_Node) hx19, ls]
              conv => lhs; whnf
              refine bind_some2 hm ?_; clear hm; intro x20 hx20 hm
              refine bif_pos (by first | exact idx_in hx20 | exact idx_in' hx20) ?_
              simp only [idx_nth (f := c_api_Node) hx20, ls]
              conv => lhs; whnf
              refine bif_or2 hm ?_ ?_ <;> clear hm <;> intro hc21 hm
              · simp only [hc21, ls]
                conv => lhs; whnf
                refine bind_some2 hm ?_; clear hm; intro x22 hx22 hm
                refine bif_pos (by first | exact idx_in hx22 | exact idx_in' hx22) ?_
                simp only [idx_nth (f := c_api_Node) hx22, ls]
                conv => lhs; whnf
                refine bind_some2 hm ?_; clear hm; intro x23 hx23 hm
                refine bif_pos (by first | exact idx_in hx23 | exact idx_in' hx23) ?_
                simp only [idx_nth (f := c_api_Node) hx23, ls]
                conv => lhs; whnf
                refine bif_or2 hm ?_ ?_ <;> clear hm <;> intro hc24 hm
                · simp only [hc24, ls]
                  conv => lhs; whnf
                  refine bif_or2 hm ?_ ?_ <;> clear hm <;> intro hc25 hm
                  · simp only [hc25, ls]
                    conv => lhs; whnf
                    refine bind_some2 hm ?_; clear hm; intro x26 hx26 hm
                    refine bif_pos (by first | exact idx_in hx26 | exact idx_in' hx26) ?_
                    simp only [idx_nth (f := c_api_Node) hx26, ls]
                    conv => lhs; whnf
                    refine bind_some2 hm ?_; clear hm; intro x27 hx27 hm
                    refine bif_pos (by first | exact idx_in hx27 | exact idx_in' hx27) ?_
                    simp only [idx_nth (f := c_api_Node) hx27, ls]
                    conv => lhs; whnf
                    refine bif_or2 hm ?_ ?_ <;> clear hm <;> intro hc28 hm
                    · simp only [hc28, ls]
                      conv => lhs; whnf
                      have hq := Option.some.inj hm; clear hm; subst hq
                      refine (hK8 _ _).trans ?_
                      refine Eq.trans ?_ (Eq.symm (show _ = some _ from hr10))
                      conv => lhs; whnf
                      try simp only [ls]
                      exact fq (y := some (AV.bool (false), []))
                    · simp only [hc28, ls]
                      conv => lhs; whnf
                      exact cq (hcont9 (true, IntKind.i64.wrap (s3 + 1)) (fun _ => 0) hm)
                  · simp only [hc25, ls]
                    conv => lhs; whnf
                    exact cq (hcont9 (false, IntKind.i64.wrap (s3 + 1)) (fun _ => 0) hm)
                · simp only [hc24, ls]
                  conv => lhs; whnf
                  have hq := Option.some.inj hm; clear hm; subst hq
                  refine (hK8 _ _).trans ?_
                  refine Eq.trans ?_ (Eq.symm (show _ = some _ from hr10))
                  conv => lhs; whnf
                  try simp only [ls]
                  exact fq (y := some (AV.bool (false), []))
              · simp only [hc21, ls]
                conv => lhs; whnf
                have hq := Option.some.inj hm; clear hm; subst hq
                refine (hK8 _ _).trans ?_
                refine Eq.trans ?_ (Eq.symm (show _ = some _ from hr10))
                conv => lhs; whnf
                try simp only [ls]
                exact fq (y := some (AV.bool (false), []))
        · simp only [hc12, ls]
          conv => lhs; whnf
          have hq := Option.some.inj hm; clear hm; subst hq
          exact kq (hr10 (fun _ => 0))
      · cases o11 with
        | ret v =>
          have hq := Option.some.inj hm; clear hm; subst hq
          rfl
        | out t =>
          intro a29
          dsimp only at hm
          conv => lhs; whnf
          have hq := Option.some.inj hm; clear hm; subst hq
          try simp only [ls]
          exact fq (y := some (AV.bool (true), []))

end Go.Proofs.Ytjobghbdfannfaa
end

section
namespace Go.Proofs.Ytjobghbdfannfaa
set_option linter.unusedVariables false
set_option linter.unusedSimpArgs false
set_option maxRecDepth 100000

set_option maxHeartbeats 4000000 in
theorem ok_law02_known (n : Nat) : ∀ (r : Bool), m_law02_known n = some r → callN Try.prog HH XT n 7 [] [] = some (AV.bool (r), []) := by
  cases n with
  | zero => intro r hm; exact absurd hm (by intro h; cases h)
  | succ n =>
    intro r hm
    rw [m_law02_known] at hm
    refine callN_eq' Try.func7 (by rfl) rfl rfl (Nat.le_of_ble_eq_true rfl) ?_
    intro call hc
    conv => lhs; whnf
    refine bind_some2 hm ?_; clear hm; intro y1 hy1 hm
    have hk2 : call false 19 [AV.str (([97, 32, 43, 32, 98, 32, 42, 32, 50, 32, 59] : List UInt8))] [] = some (AV.sl 4 (List.map c_api_Token (y1)), []) := (hc _ _ _).trans (ok_law02_tokens n ([97, 32, 43, 32, 98, 32, 42, 32, 50, 32, 59] : List UInt8) y1 hy1)
    try simp only [List.drop_zero, ls]
    first | simp only [hk2] | rewrite [hk2]
    try simp only [ls]
    conv => lhs; whnf
    refine bind_some2 hm ?_; clear hm; intro y3 hy3 hm
    have hk4 : call false 20 [AV.sl 4 (List.map c_api_Token (y1)), AV.int .i64 (0)] [] = some (AV.tup [AV.sl 5 (List.map c_api_Node ((y3).1)), AV.int .i64 ((y3).2.1), AV.int .i64 ((y3).2.2.1), AV.int .i64 ((y3).2.2.2)], []) := (hc _ _ _).trans (ok_expr_Parse n y1 0 y3 hy3)
    try simp only [List.drop_zero, ls]
    first | simp only [hk4] | rewrite [hk4]
    try simp only [ls]
    conv => lhs; whnf
    refine bind_some2 hm ?_; clear hm; intro y5 hy5 hm
    have hk6 : call false 19 [AV.str (([97, 32, 45, 32, 116, 46, 98, 32, 45, 32, 33, 99] : List UInt8))] [] = some (AV.sl 4 (List.map c_api_Token (y5)), []) := (hc _ _ _).trans (ok_law02_tokens n ([97, 32, 45, 32, 116, 46, 98, 32, 45, 32, 33, 99] : List UInt8) y5 hy5)
    try simp only [List.drop_zero, ls]
    first | simp only [hk6] | rewrite [hk6]
    try simp only [ls]
    conv => lhs; whnf
    refine bind_some2 hm ?_; clear hm; intro y7 hy7 hm
    have hk8 : call false 20 [AV.sl 4 (List.map c_api_Token (y5)), AV.int .i64 (0)] [] = some (AV.tup [AV.sl 5 (List.map c_api_Node ((y7).1)), AV.int .i64 ((y7).2.1), AV.int .i64 ((y7).2.2.1), AV.int .i64 ((y7).2.2.2)], []) := (hc _ _ _).trans (ok_expr_Parse n y5 0 y7 hy7)
    try simp only [List.drop_zero, ls]
    first | simp only [hk8] | rewrite [hk8]
    try simp only [ls]
    conv => lhs; whnf
    refine bind_some2 hm ?_; clear hm; intro y9 hy9 hm
    have hk10 : call false 19 [AV.str (([40, 97, 32, 43, 32, 59] : List UInt8))] [] = some (AV.sl 4 (List.map c_api_Token (y9)), []) := (hc _ _ _).trans (ok_law02_tokens n ([40, 97, 32, 43, 32, 59] : List UInt8) y9 hy9)
    try simp only [List.drop_zero, ls]
    first | simp only [hk10] | rewrite [hk10]
    try simp only [ls]
    conv => lhs; whnf
    refine bind_some2 hm ?_; clear hm; intro y11 hy11 hm
    have hk12 : call false 20 [AV.sl 4 (List.map c_api_Token (y9)), AV.int .i64 (0)] [] = some (AV.tup [AV.sl 5 (List.map c_api_Node ((y11).1)), AV.int .i64 ((y11).2.1), AV.int .i64 ((y11).2.2.1), AV.int .i64 ((y11).2.2.2)], []) := (hc _ _ _).trans (ok_expr_Parse n y9 0 y11 hy11)
    try simp only [List.drop_zero, ls]
    first | simp only [hk12] | rewrite [hk12]
    try simp only [ls]
    conv => lhs; whnf
    refine bind_some2 hm ?_; clear hm; intro y13 hy13 hm
    have hk14 : call false 19 [AV.str (([97, 32, 60] : List UInt8))] [] = some (AV.sl 4 (List.map c_api_Token (y13)), []) := (hc _ _ _).trans (ok_law02_tokens n ([97, 32, 60] : List UInt8) y13 hy13)
    try simp only [List.drop_zero, ls]
    first | simp only [hk14] | rewrite [hk14]
    try simp only [ls]
    conv => lhs; whnf
    refine bind_some2 hm ?_; clear hm; intro y15 hy15 hm
    have hk16 : call false 20 [AV.sl 4 (List.map c_api_Token (y13)), AV.int .i64 (0)] [] = some (AV.tup [AV.sl 5 (List.map c_api_Node ((y15).1)), AV.int .i64 ((y15).2.1), AV.int .i64 ((y15).2.2.1), AV.int .i64 ((y15).2.2.2)], []) := (hc _ _ _).trans (ok_expr_Parse n y13 0 y15 hy15)
    try simp only [List.drop_zero, ls]
    first | simp only [hk16] | rewrite [hk16]
    try simp only [ls]
    conv => lhs; whnf
    refine bind_some2 hm ?_; clear hm; intro y17 hy17 hm
    have hk18 : call false 16 [AV.sl 5 (List.map c_api_Node ((y3).1)), AV.sl 5 [[AV.int .i64 (6), AV.int .i64 (0), AV.str (([] : List UInt8)), AV.str (([] : List UInt8)), AV.int .i64 (2)], [AV.int .i64 (2), AV.int .i64 (0), AV.str (([97] : List UInt8)), AV.str (([] : List UInt8)), AV.int .i64 (0)], [AV.int .i64 (8), AV.int .i64 (0), AV.str (([] : List UInt8)), AV.str (([] : List UInt8)), AV.int .i64 (6)], [AV.int .i64 (2), AV.int .i64 (0), AV.str (([98] : List UInt8)), AV.str (([] : List UInt8)), AV.int .i64 (4)], [AV.int .i64 (1), AV.int .i64 (2), AV.str (([] : List UInt8)), AV.str (([] : List UInt8)), AV.int .i64 (8)]], AV.bool (true)] [] = some (AV.bool (y17), []) := (hc _ _ _).trans (ok_ref02_Same n ((y3).1) ([(⟨6, 0, ([] : List UInt8), ([] : List UInt8), 2⟩ : S_api_Node), (⟨2, 0, ([97] : List UInt8), ([] : List UInt8), 0⟩ : S_api_Node), (⟨8, 0, ([] : List UInt8), ([] : List UInt8), 6⟩ : S_api_Node), (⟨2, 0, ([98] : List UInt8), ([] : List UInt8), 4⟩ : S_api_Node), (⟨1, 2, ([] : List UInt8), ([] : List UInt8), 8⟩ : S_api_Node)] : List S_api_Node) true y17 hy17)
    try simp only [List.length_nil, List.map_nil] at hk18
    try simp only [List.length_nil, List.map_nil]
    try simp only [List.drop_zero, ls]
    first | simp only [hk18] | rewrite [hk18]
    try simp only [ls]
    conv => lhs; whnf
    refine bif_or2 hm ?_ ?_ <;> clear hm <;> intro hc19 hm
    · simp only [hc19, ls]
      conv => lhs; whnf
      refine bif_or2 hm ?_ ?_ <;> clear hm <;> intro hc20 hm
      · simp only [hc20, ls]
        conv => lhs; whnf
        refine bif_or2 hm ?_ ?_ <;> clear hm <;> intro hc21 hm
        · simp only [hc21, ls]
          conv => lhs; whnf
          refine bif_or2 hm ?_ ?_ <;> clear hm <;> intro hc22 hm
          · simp only [hc22, ls]
            conv => lhs; whnf
            refine bind_some2 hm ?_; clear hm; intro y23 hy23 hm
            have hk24 : call false 14 [AV.sl 5 (List.map c_api_Node ((y3).1))] [] = some (AV.str (y23), []) := (hc _ _ _).trans (ok_expr_Show n ((y3).1) y23 hy23)
            try simp only [List.drop_zero, ls]
            first | simp only [hk24] | rewrite [hk24]
            try simp only [ls]
            conv => lhs; whnf
            refine bif_or2 hm ?_ ?_ <;> clear hm <;> intro hc25 hm
            · simp only [hc25, ls]
              conv => lhs; whnf
              refine bind_some2 hm ?_; clear hm; intro y26 hy26 hm
              have hk27 : call false 14 [AV.sl 5 (List.map c_api_Node ((y7).1))] [] = some (AV.str (y26), []) := (hc _ _ _).trans (ok_expr_Show n ((y7).1) y26 hy26)
              try simp only [List.drop_zero, ls]
              first | simp only [hk27] | rewrite [hk27]
              try simp only [ls]
              conv => lhs; whnf
              refine bif_or2 hm ?_ ?_ <;> clear hm <;> intro hc28 hm
              · simp only [hc28, ls]
                conv => lhs; whnf
                refine bif_or2 hm ?_ ?_ <;> clear hm <;> intro hc29 hm
                · simp only [hc29, ls]
                  conv => lhs; whnf
                  refine bif_or2 hm ?_ ?_ <;> clear hm <;> intro hc30 hm
                  · simp only [hc30, ls]
                    conv => lhs; whnf
                    refine bif_or2 hm ?_ ?_ <;> clear hm <;> intro hc31 hm
                    · simp only [hc31, ls]
                      conv => lhs; whnf
                      refine bif_or2 hm ?_ ?_ <;> clear hm <;> intro hc32 hm
                      · simp only [hc32, ls]
                        conv => lhs; whnf
                        refine bind_some2 hm ?_; clear hm; intro y33 hy33 hm
                        have hk34 : call false 8 [AV.sl 5 (List.map c_api_Node ((y3).1))] [] = some (AV.bool (y33), []) := (hc _ _ _).trans (ok_expr_Right n ((y3).1) y33 hy33)
                        try simp only [List.drop_zero, ls]
                        first | simp only [hk34] | rewrite [hk34]
                        try simp only [ls]
                        conv => lhs; whnf
                        refine bif_or2 hm ?_ ?_ <;> clear hm <;> intro hc35 hm
                        · simp only [hc35, ls]
                          conv => lhs; whnf
                          refine chk_some2 hm ?_; clear hm; intro hc37 hm
                          try simp only [ls]
                          refine bif_pos hc37 ?_
                          have hs36 : List.drop ((1 : Int).toNat) (List.take (((y3).1).length) (List.map c_api_Node ((y3).1))) = List.map c_api_Node (List.drop ((1 : Int).toNat) (List.take (((y3).1).length) ((y3).1))) := by rw [List.map_drop, List.map_take]
                          have hs36_b : List.drop ((1 : Int).toNat) (List.map c_api_Node ((y3).1)) = List.map c_api_Node (List.drop ((1 : Int).toNat) (List.take ((y3).1).length ((y3).1))) := by rw [List.take_length, List.map_drop]
                          first | simp only [hs36, ls] | simp only [hs36_b, ls]
                          conv => lhs; whnf
                          refine bind_some2 hm ?_; clear hm; intro y38 hy38 hm
                          have hk39 : call false 8 [AV.sl 5 (List.map c_api_Node ((List.drop ((1 : Int).toNat) (List.take (((y3).1).length) ((y3).1)))))] [] = some (AV.bool (y38), []) := (hc _ _ _).trans (ok_expr_Right n (List.drop ((1 : Int).toNat) (List.take (((y3).1).length) ((y3).1))) y38 hy38)
                          try simp only [List.drop_zero, ls]
                          first | simp only [hk39] | rewrite [hk39]
                          try simp only [ls]
                          conv => lhs; whnf
                          refine bif_or2 hm ?_ ?_ <;> clear hm <;> intro hc40 hm
                          · simp only [hc40, ls]
                            conv => lhs; whnf
                            have hq := Option.some.inj hm; clear hm; subst hq
                            try simp only [ls]
                            exact fq (y := some (AV.bool (false), []))
                          · simp only [hc40, ls]
                            conv => lhs; whnf
                            refine bind_some2 hm ?_; clear hm; intro y41 hy41 hm
                            have hk42 : call false 10 [AV.sl 5 (List.map c_api_Node ((y3).1))] [] = some (AV.int .i64 (y41), []) := (hc _ _ _).trans (ok_expr_Depth n ((y3).1) y41 hy41)
                            try simp only [List.drop_zero, ls]
                            first | simp only [hk42] | rewrite [hk42]
                            try simp only [ls]
                            conv => lhs; whnf
                            refine bif_or2 hm ?_ ?_ <;> clear hm <;> intro hc43 hm
                            · simp only [hc43, ls]
                              conv => lhs; whnf
                              refine bind_some2 hm ?_; clear hm; intro y44 hy44 hm
                              have hk45 : call false 12 [AV.sl 5 (List.map c_api_Node ((y3).1)), AV.int .i64 (2)] [] = some (AV.int .i64 (y44), []) := (hc _ _ _).trans (ok_expr_End n ((y3).1) 2 y44 hy44)
                              try simp only [List.drop_zero, ls]
                              first | simp only [hk45] | rewrite [hk45]
                              try simp only [ls]
                              conv => lhs; whnf
                              refine bif_or2 hm ?_ ?_ <;> clear hm <;> intro hc46 hm
                              · simp only [hc46, ls]
                                conv => lhs; whnf
                                refine bind_some2 hm ?_; clear hm; intro y47 hy47 hm
                                have hk48 : call false 17 [AV.sl 5 (List.map c_api_Node ((y7).1))] [] = some (AV.sl 5 (List.map c_api_Node (y47)), []) := (hc _ _ _).trans (ok_expr_Names n ((y7).1) y47 hy47)
                                try simp only [List.drop_zero, ls]
                                first | simp only [hk48] | rewrite [hk48]
                                try simp only [ls]
                                conv => lhs; whnf
                                have hq := Option.some.inj hm; clear hm; subst hq
                                try simp only [ls]
                                exact fq (y := some (AV.bool (((((y47).length : Nat) : Int) == 3)), []))
                              · simp only [hc46, ls]
                                conv => lhs; whnf
                                have hq := Option.some.inj hm; clear hm; subst hq
                                try simp only [ls]
                                exact fq (y := some (AV.bool (false), []))
                            · simp only [hc43, ls]
                              conv => lhs; whnf
                              have hq := Option.some.inj hm; clear hm; subst hq
                              try simp only [ls]
                              exact fq (y := some (AV.bool (false), []))
                        · simp only [hc35, ls]
                          conv => lhs; whnf
                          have hq := Option.some.inj hm; clear hm; subst hq
                          try simp only [ls]
                          exact fq (y := some (AV.bool (false), []))
                      · simp only [hc32, ls]
                        conv => lhs; whnf
                        have hq := Option.some.inj hm; clear hm; subst hq
                        try simp only [ls]
                        exact fq (y := some (AV.bool (false), []))
                    · simp only [hc31, ls]
                      conv => lhs; whnf
                      have hq := Option.some.inj hm; clear hm; subst hq
                      try simp only [ls]
                      exact fq (y := some (AV.bool (false), []))
                  · simp only [hc30, ls]
                    conv => lhs; whnf
                    have hq := Option.some.inj hm; clear hm; subst hq
                    try simp only [ls]
                    exact fq (y := some (AV.bool (false), []))
                · simp only [hc29, ls]
                  conv => lhs; whnf
                  have hq := Option.some.inj hm; clear hm; subst hq
                  try simp only [ls]
                  exact fq (y := some (AV.bool (false), []))
              · simp only [hc28, ls]
                conv => lhs; whnf
                have hq := Option.some.inj hm; clear hm; subst hq
                try simp only [ls]
                exact fq (y := some (AV.bool (false), []))
            · simp only [hc25, ls]
              conv => lhs; whnf
              have hq := Option.some.inj hm; clear hm; subst hq
              try simp only [ls]
              exact fq (y := some (AV.bool (false), []))
          · simp only [hc22, ls]
            conv => lhs; whnf
            have hq := Option.some.inj hm; clear hm; subst hq
            try simp only [ls]
            exact fq (y := some (AV.bool (false), []))
        · simp only [hc21, ls]
          conv => lhs; whnf
          have hq := Option.some.inj hm; clear hm; subst hq
          try simp only [ls]
          exact fq (y := some (AV.bool (false), []))
      · simp only [hc20, ls]
        conv => lhs; whnf
        have hq := Option.some.inj hm; clear hm; subst hq
        try simp only [ls]
        exact fq (y := some (AV.bool (false), []))
    · simp only [hc19, ls]
      conv => lhs; whnf
      have hq := Option.some.inj hm; clear hm; subst hq
      try simp only [ls]
      exact fq (y := some (AV.bool (false), []))
end Go.Proofs.Ytjobghbdfannfaa
end

section
namespace Go.Proofs.Ytjobghbdfannfaa
set_option linter.unusedVariables false
set_option linter.unusedSimpArgs false
set_option maxRecDepth 100000

set_option maxHeartbeats 4000000 in
theorem ok_law02_ExprRight (n : Nat) : ∀ (v0_s : (List UInt8)) (r : Bool), m_law02_ExprRight n v0_s = some r → callN Try.prog HH XT n 5 [AV.str (v0_s)] [] = some (AV.bool (r), []) := by
  cases n with
  | zero => intro v0_s r hm; exact absurd hm (by intro h; cases h)
  | succ n =>
    intro v0_s r hm
    rw [m_law02_ExprRight] at hm
    refine callN_eq' Try.func5 (by rfl) rfl rfl (Nat.le_of_ble_eq_true rfl) ?_
    intro call hc
    conv => lhs; whnf
    refine bif_or2 hm ?_ ?_ <;> clear hm <;> intro hc1 hm
    · simp only [hc1, ls]
      conv => lhs; whnf
      refine bind_some2 hm ?_; clear hm; intro y2 hy2 hm
      have hk3 : call false 7 [] [] = some (AV.bool (y2), []) := (hc _ _ _).trans (ok_law02_known n  y2 hy2)
      try simp only [List.drop_zero, ls]
      first | simp only [hk3] | rewrite [hk3]
      try simp only [ls]
      conv => lhs; whnf
      have hq := Option.some.inj hm; clear hm; subst hq
      try simp only [ls]
      exact fq (y := some (AV.bool (y2), []))
    · simp only [hc1, ls]
      conv => lhs; whnf
      refine bind_some2 hm ?_; clear hm; intro y4 hy4 hm
      have hk5 : call false 19 [AV.str (v0_s)] [] = some (AV.sl 4 (List.map c_api_Token (y4)), []) := (hc _ _ _).trans (ok_law02_tokens n v0_s y4 hy4)
      try simp only [List.drop_zero, ls]
      first | simp only [hk5] | rewrite [hk5]
      try simp only [ls]
      conv => lhs; whnf
      refine bind_some2 hm ?_; clear hm; intro y6 hy6 hm
      have hk7 : call false 20 [AV.sl 4 (List.map c_api_Token (y4)), AV.int .i64 (0)] [] = some (AV.tup [AV.sl 5 (List.map c_api_Node ((y6).1)), AV.int .i64 ((y6).2.1), AV.int .i64 ((y6).2.2.1), AV.int .i64 ((y6).2.2.2)], []) := (hc _ _ _).trans (ok_expr_Parse n y4 0 y6 hy6)
      try simp only [List.drop_zero, ls]
      first | simp only [hk7] | rewrite [hk7]
      try simp only [ls]
      conv => lhs; whnf
      refine bif_or2 hm ?_ ?_ <;> clear hm <;> intro hc8 hm
      · simp only [hc8, ls]
        conv => lhs; whnf
        refine bif_or2 hm ?_ ?_ <;> clear hm <;> intro hc9 hm
        · simp only [hc9, ls]
          conv => lhs; whnf
          refine bif_or2 hm ?_ ?_ <;> clear hm <;> intro hc10 hm
          · simp only [hc10, ls]
            conv => lhs; whnf
            refine bif_or2 hm ?_ ?_ <;> clear hm <;> intro hc11 hm
            · simp only [hc11, ls]
              conv => lhs; whnf
              refine bif_or2 hm ?_ ?_ <;> clear hm <;> intro hc12 hm
              · simp only [hc12, ls]
                conv => lhs; whnf
                refine bind_some2 hm ?_; clear hm; intro y13 hy13 hm
                have hk14 : call false 7 [] [] = some (AV.bool (y13), []) := (hc _ _ _).trans (ok_law02_known n  y13 hy13)
                try simp only [List.drop_zero, ls]
                first | simp only [hk14] | rewrite [hk14]
                try simp only [ls]
                conv => lhs; whnf
                have hq := Option.some.inj hm; clear hm; subst hq
                try simp only [ls]
                exact fq (y := some (AV.bool (y13), []))
              · simp only [hc12, ls]
                conv => lhs; whnf
                have hq := Option.some.inj hm; clear hm; subst hq
                try simp only [ls]
                exact fq (y := some (AV.bool (false), []))
            · simp only [hc11, ls]
              conv => lhs; whnf
              have hq := Option.some.inj hm; clear hm; subst hq
              try simp only [ls]
              exact fq (y := some (AV.bool (false), []))
          · simp only [hc10, ls]
            conv => lhs; whnf
            have hq := Option.some.inj hm; clear hm; subst hq
            try simp only [ls]
            exact fq (y := some (AV.bool (false), []))
        · simp only [hc9, ls]
          conv => lhs; whnf
          have hq := Option.some.inj hm; clear hm; subst hq
          try simp only [ls]
          exact fq (y := some (AV.bool (false), []))
      · simp only [hc8, ls]
        conv => lhs; whnf
        refine bind_some2 hm ?_; clear hm; intro y15 hy15 hm
        have hk16 : call false 14 [AV.sl 5 (List.map c_api_Node ((y6).1))] [] = some (AV.str (y15), []) := (hc _ _ _).trans (ok_expr_Show n ((y6).1) y15 hy15)
        try simp only [List.drop_zero, ls]
        first | simp only [hk16] | rewrite [hk16]
        try simp only [ls]
        conv => lhs; whnf
        refine bind_some2 hm ?_; clear hm; intro y17 hy17 hm
        have hk18 : call false 19 [AV.str (y15)] [] = some (AV.sl 4 (List.map c_api_Token (y17)), []) := (hc _ _ _).trans (ok_law02_tokens n y15 y17 hy17)
        try simp only [List.drop_zero, ls]
        first | simp only [hk18] | rewrite [hk18]
        try simp only [ls]
        conv => lhs; whnf
        refine bind_some2 hm ?_; clear hm; intro y19 hy19 hm
        have hk20 : call false 20 [AV.sl 4 (List.map c_api_Token (y17)), AV.int .i64 (0)] [] = some (AV.tup [AV.sl 5 (List.map c_api_Node ((y19).1)), AV.int .i64 ((y19).2.1), AV.int .i64 ((y19).2.2.1), AV.int .i64 ((y19).2.2.2)], []) := (hc _ _ _).trans (ok_expr_Parse n y17 0 y19 hy19)
        try simp only [List.drop_zero, ls]
        first | simp only [hk20] | rewrite [hk20]
        try simp only [ls]
        conv => lhs; whnf
        refine bind_some2 hm ?_; clear hm; intro y21 hy21 hm
        have hk22 : call false 8 [AV.sl 5 (List.map c_api_Node ((y6).1))] [] = some (AV.bool (y21), []) := (hc _ _ _).trans (ok_expr_Right n ((y6).1) y21 hy21)
        try simp only [List.drop_zero, ls]
        first | simp only [hk22] | rewrite [hk22]
        try simp only [ls]
        conv => lhs; whnf
        refine bif_or2 hm ?_ ?_ <;> clear hm <;> intro hc23 hm
        · simp only [hc23, ls]
          conv => lhs; whnf
          refine bif_or2 hm ?_ ?_ <;> clear hm <;> intro hc24 hm
          · simp only [hc24, ls]
            conv => lhs; whnf
            refine bif_or2 hm ?_ ?_ <;> clear hm <;> intro hc25 hm
            · simp only [hc25, ls]
              conv => lhs; whnf
              refine bif_or2 hm ?_ ?_ <;> clear hm <;> intro hc26 hm
              · simp only [hc26, ls]
                conv => lhs; whnf
                refine bind_some2 hm ?_; clear hm; intro y27 hy27 hm
                have hk28 : call false 16 [AV.sl 5 (List.map c_api_Node ((y6).1)), AV.sl 5 (List.map c_api_Node ((y19).1)), AV.bool (false)] [] = some (AV.bool (y27), []) := (hc _ _ _).trans (ok_ref02_Same n ((y6).1) ((y19).1) false y27 hy27)
                try simp only [List.drop_zero, ls]
                first | simp only [hk28] | rewrite [hk28]
                try simp only [ls]
                conv => lhs; whnf
                refine bif_or2 hm ?_ ?_ <;> clear hm <;> intro hc29 hm
                · simp only [hc29, ls]
                  conv => lhs; whnf
                  refine bind_some2 hm ?_; clear hm; intro y30 hy30 hm
                  have hk31 : call false 7 [] [] = some (AV.bool (y30), []) := (hc _ _ _).trans (ok_law02_known n  y30 hy30)
                  try simp only [List.drop_zero, ls]
                  first | simp only [hk31] | rewrite [hk31]
                  try simp only [ls]
                  conv => lhs; whnf
                  have hq := Option.some.inj hm; clear hm; subst hq
                  try simp only [ls]
                  exact fq (y := some (AV.bool (y30), []))
                · simp only [hc29, ls]
                  conv => lhs; whnf
                  have hq := Option.some.inj hm; clear hm; subst hq
                  try simp only [ls]
                  exact fq (y := some (AV.bool (false), []))
              · simp only [hc26, ls]
                conv => lhs; whnf
                have hq := Option.some.inj hm; clear hm; subst hq
                try simp only [ls]
                exact fq (y := some (AV.bool (false), []))
            · simp only [hc25, ls]
              conv => lhs; whnf
              have hq := Option.some.inj hm; clear hm; subst hq
              try simp only [ls]
              exact fq (y := some (AV.bool (false), []))
          · simp only [hc24, ls]
            conv => lhs; whnf
            have hq := Option.some.inj hm; clear hm; subst hq
            try simp only [ls]
            exact fq (y := some (AV.bool (false), []))
        · simp only [hc23, ls]
          conv => lhs; whnf
          have hq := Option.some.inj hm; clear hm; subst hq
          try simp only [ls]
          exact fq (y := some (AV.bool (false), []))
end Go.Proofs.Ytjobghbdfannfaa
end

