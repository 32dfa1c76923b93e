/- Parts of the proofs: what they lean on. Conditions: none. -/
import Derived.Test.YtmnnkeejgkhgpaaCodeMakesP3
section
namespace Go.Proofs.Ytmnnkeejgkhgpaa
set_option linter.unusedVariables false
set_option linter.unusedSimpArgs false
set_option maxRecDepth 100000

set_option maxHeartbeats 4000000 in
theorem ok_ref06_Thread (n : Nat) : ∀ (v0_l : (List S_api_Node)) (v1_regs : (List (List UInt8))) (r : ((List OpS) × Bool)), m_ref06_Thread n v0_l v1_regs = some r → callN Try.prog HH XT n 12 [AV.sl 5 (List.map c_api_Node (v0_l)), AV.sl 1 (List.map encS (v1_regs))] [] = some (AV.tup [AV.sl 3 (List.map encOp ((r).1)), AV.bool ((r).2)], []) := by
  cases n with
  | zero => intro v0_l v1_regs r hm; exact absurd hm (by intro h; cases h)
  | succ n =>
    intro v0_l v1_regs r hm
    rw [m_ref06_Thread] at hm
    refine callN_eq' Try.func12 (by rfl) rfl rfl (Nat.le_of_ble_eq_true rfl) ?_
    intro call hc
    conv => lhs; whnf
    refine bind_some2 hm ?_; clear hm; intro y1 hy1 hm
    have hk2 : call false 29 [AV.sl 5 (List.map c_api_Node (v0_l))] [] = some (AV.bool (y1), []) := (hc _ _ _).trans (ok_ref02_Right n v0_l y1 hy1)
    try simp only [List.drop_zero, ls]
    first | simp only [hk2] | rewrite [hk2]
    try simp only [ls]
    conv => lhs; whnf
    refine bif_or2 hm ?_ ?_ <;> clear hm <;> intro hc3 hm
    · simp only [hc3, ls]
      conv => lhs; whnf
      refine chk_some2 hm ?_; clear hm; intro hc5 hm
      try simp only [ls]
      refine bif_pos (by first | exact make_ok (B := 24) hc5 rfl (by kernel_rfl) | exact make_ok2 (B := 24) hc5 (by kernel_rfl)) ?_
      have hr4 : List.replicate ((((v0_l).length : Nat) : Int)).toNat [AV.int .i64 (0), AV.int .i64 (0), AV.int .i64 (0)] = List.map encOp (List.replicate ((((v0_l).length : Nat) : Int)).toNat (⟨0, 0, 0⟩ : OpS) : List OpS) := by rw [List.map_replicate]; rfl
      simp only [hr4, ls]
      conv => lhs; whnf
      refine bind_some2 hm ?_; clear hm; intro o15 ho15 hm
      refine rounds_sim (σ := (Int × (List OpS))) (τ := (List OpS)) (ν := ((List OpS) × Bool)) 0 (fun (s6, s7) a9 => stOf 61 [(0, AV.sl 5 (List.map c_api_Node (v0_l))), (1, AV.sl 1 (List.map encS (v1_regs))), (6, AV.own 0 0 (List.length (s7))), (7, AV.int .i64 (s6))]) (fun (s6, s7) a9 => [Ob.arr 3 (List.map encOp (s7))]) (fun x33 a32 => stOf 61 [(0, AV.sl 5 (List.map c_api_Node (v0_l))), (6, AV.own 0 0 (List.length (x33)))]) (fun x33 a32 => [Ob.arr 3 (List.map encOp (x33))]) (fun v => (AV.tup [AV.sl 3 (List.map encOp ((v).1)), AV.bool ((v).2)], [])) (fun k s => ref06_Thread_L0 n v0_l v1_regs k ((s).1) ((s).2)) (fun s => rfl) o15 ?_ n (0, (List.replicate ((((v0_l).length : Nat) : Int)).toNat (⟨0, 0, 0⟩ : OpS) : List OpS)) (fun _ => 0) _ _ ho15 ?_ (by first | rfl | (simp only [ls, List.map_append, List.map_cons, List.map_nil, List.append_nil, List.length_set, length_copyL] <;> rfl)) (by first | rfl | (simp only [ls, List.map_append, List.map_cons, List.map_nil, List.append_nil, List.length_set, length_copyL] <;> rfl))
      · intro k8 ss a9 K10 cont11 hK12 hcont13 hm hr14
        obtain ⟨s6, s7⟩ := ss
        replace hm : ref06_Thread_L0 n v0_l v1_regs (k8 + 1) s6 s7 = some o15 := hm
        rw [ref06_Thread_L0] at hm
        conv => lhs; whnf
        refine bif_or2 hm ?_ ?_ <;> clear hm <;> intro hc16 hm
        · simp only [hc16, ls]
          conv => lhs; whnf
          refine bind_some2 hm ?_; clear hm; intro x17 hx17 hm
          refine bif_pos (by first | exact idx_in hx17 | exact idx_in' hx17) ?_
          simp only [idx_nth (f := c_api_Node) hx17, ls]
          conv => lhs; whnf
          refine bif_or2 hm ?_ ?_ <;> clear hm <;> intro hc18 hm
          · simp only [hc18, ls]
            conv => lhs; whnf
            refine bind_some2 hm ?_; clear hm; intro x19 hx19 hm
            refine bif_pos (by first | exact idx_in hx19 | exact idx_in' hx19) ?_
            simp only [idx_nth (f := c_api_Node) hx19, ls]
            conv => lhs; whnf
            refine bind_some2 hm ?_; clear hm; intro x20 hx20 hm
            try simp only [ls]
            refine bif_pos (by first | exact idx_in hx20 | exact idx_in' hx20 | exact own_in hx20 | exact own_in' hx20 | (have q := idx_in hx20; simp only [List.length_set] at q; exact q) | (have q := own_in' hx20; simp only [List.length_set, Nat.zero_add] at q ⊢; exact q)) ?_
            conv => lhs; whnf
            try simp only [Nat.zero_add, idx_nth (f := encOp) hx20, dec_self, ls]
            conv => lhs; whnf
            have hs21 : setNth (List.map encOp s7) (s6).toNat [AV.int .i64 (1), AV.int .i64 (x19.f_N), AV.int .i64 (0)] = List.map encOp (List.set s7 (s6).toNat (⟨1, x19.f_N, 0⟩ : OpS)) := by rw [setNth_eq, List.map_set]; rfl
            have hs21_u : setNth (List.map encOp s7) (s6).toNat (updL (encOp x20) 0 [AV.int .i64 (1), AV.int .i64 (x19.f_N), AV.int .i64 (0)]) = List.map encOp (List.set s7 (s6).toNat (⟨1, x19.f_N, 0⟩ : OpS)) := by rw [setNth_eq, List.map_set]; rfl
            try simp only [Nat.zero_add, idx_nth (f := encOp) hx20]
            conv => lhs; whnf
            try simp only [hs21, hs21_u]
            conv => lhs; whnf
            exact cq (hcont13 (IntKind.i64.wrap (s6 + 1), (List.set s7 (s6).toNat (⟨1, x19.f_N, 0⟩ : OpS))) (fun _ => 0) hm)
          · simp only [hc18, ls]
            conv => lhs; whnf
            refine bif_or2 hm ?_ ?_ <;> clear hm <;> intro hc22 hm
            · simp only [hc22, ls]
              conv => lhs; whnf
              refine bind_some2 hm ?_; clear hm; intro x23 hx23 hm
              refine bif_pos (by first | exact idx_in hx23 | exact idx_in' hx23) ?_
              simp only [idx_nth (f := c_api_Node) hx23, ls]
              conv => lhs; whnf
              refine bind_some2 hm ?_; clear hm; intro y24 hy24 hm
              have hk25 : call false 30 [AV.sl 1 (List.map encS (v1_regs)), AV.str (x23.f_Name)] [] = some (AV.int .i64 (y24), []) := (hc _ _ _).trans (ok_ref05_Index n v1_regs x23.f_Name y24 hy24)
              try simp only [List.drop_zero, ls]
              first | simp only [hk25] | rewrite [hk25]
              try simp only [ls]
              conv => lhs; whnf
              refine bind_some2 hm ?_; clear hm; intro x26 hx26 hm
              try simp only [ls]
              refine bif_pos (by first | exact idx_in hx26 | exact idx_in' hx26 | exact own_in hx26 | exact own_in' hx26 | (have q := idx_in hx26; simp only [List.length_set] at q; exact q) | (have q := own_in' hx26; simp only [List.length_set, Nat.zero_add] at q ⊢; exact q)) ?_
              conv => lhs; whnf
              try simp only [Nat.zero_add, idx_nth (f := encOp) hx26, dec_self, ls]
              conv => lhs; whnf
              have hs27 : setNth (List.map encOp s7) (s6).toNat [AV.int .i64 (2), AV.int .i64 (y24), AV.int .i64 (0)] = List.map encOp (List.set s7 (s6).toNat (⟨2, y24, 0⟩ : OpS)) := by rw [setNth_eq, List.map_set]; rfl
              have hs27_u : setNth (List.map encOp s7) (s6).toNat (updL (encOp x26) 0 [AV.int .i64 (2), AV.int .i64 (y24), AV.int .i64 (0)]) = List.map encOp (List.set s7 (s6).toNat (⟨2, y24, 0⟩ : OpS)) := by rw [setNth_eq, List.map_set]; rfl
              try simp only [Nat.zero_add, idx_nth (f := encOp) hx26]
              conv => lhs; whnf
              try simp only [hs27, hs27_u]
              conv => lhs; whnf
              refine bind_some2 hm ?_; clear hm; intro x28 hx28 hm
              try simp only [ls]
              refine bif_pos (by first | exact idx_in hx28 | exact idx_in' hx28 | exact own_in hx28 | exact own_in' hx28 | (have q := idx_in hx28; simp only [List.length_set] at q; exact q) | (have q := own_in' hx28; simp only [List.length_set, Nat.zero_add] at q ⊢; exact q)) ?_
              conv => lhs; whnf
              try simp only [Nat.zero_add, idx_nth (f := encOp) hx28, dec_self, ls]
              conv => lhs; whnf
              refine bif_or2 hm ?_ ?_ <;> clear hm <;> intro hc29 hm
              · simp only [hc29, ls]
                conv => lhs; whnf
                have hq := Option.some.inj hm; clear hm; subst hq
                refine (hK12 _ _).trans ?_
                refine Eq.trans ?_ (Eq.symm (show _ = some _ from hr14))
                conv => lhs; whnf
                try simp only [ls]
                exact fq (y := some (AV.tup [AV.sl 3 [], AV.bool (false)], []))
              · simp only [hc29, ls]
                conv => lhs; whnf
                exact cq (hcont13 (IntKind.i64.wrap (s6 + 1), (List.set s7 (s6).toNat (⟨2, y24, 0⟩ : OpS))) (fun _ => 0) hm)
            · simp only [hc22, ls]
              conv => lhs; whnf
              refine bif_or2 hm ?_ ?_ <;> clear hm <;> intro hc30 hm
              · simp only [hc30, ls]
                conv => lhs; whnf
                have hq := Option.some.inj hm; clear hm; subst hq
                refine (hK12 _ _).trans ?_
                refine Eq.trans ?_ (Eq.symm (show _ = some _ from hr14))
                conv => lhs; whnf
                try simp only [ls]
                exact fq (y := some (AV.tup [AV.sl 3 [], AV.bool (false)], []))
              · simp only [hc30, ls]
                conv => lhs; whnf
                refine bif_or2 hm ?_ ?_ <;> clear hm <;> intro hc31 hm
                · simp only [hc31, ls]
                  conv => lhs; whnf
                  have hq := Option.some.inj hm; clear hm; subst hq
                  refine (hK12 _ _).trans ?_
                  refine Eq.trans ?_ (Eq.symm (show _ = some _ from hr14))
                  conv => lhs; whnf
                  try simp only [ls]
                  exact fq (y := some (AV.tup [AV.sl 3 [], AV.bool (false)], []))
                · simp only [hc31, ls]
                  conv => lhs; whnf
                  exact cq (hcont13 (IntKind.i64.wrap (s6 + 1), s7) (fun _ => 0) hm)
        · simp only [hc16, ls]
          conv => lhs; whnf
          have hq := Option.some.inj hm; clear hm; subst hq
          exact kq (hr14 (fun _ => 0))
      · cases o15 with
        | ret v =>
          have hq := Option.some.inj hm; clear hm; subst hq
          rfl
        | out t =>
          obtain ⟨x33, rfl⟩ : ∃ x, x = t := ⟨_, rfl⟩
          intro a32
          dsimp only at hm
          conv => lhs; whnf
          refine bind_some2 hm ?_; clear hm; intro y34 hy34 hm
          cases y34 with
          | c0 y36 =>
            dsimp only at hm
            have hk35 : call false 31 [AV.sl 5 (List.map c_api_Node (v0_l)), AV.own 0 0 (List.length (x33)), AV.int .i64 (0)] [Ob.arr 3 (List.map encOp (x33))] = some (AV.sl 3 (List.map encOp (y36)), [Ob.arr 3 (List.map encOp (x33))]) := (hc _ _ _).trans (ok_ref06_made n v0_l 0 x33 (.c0 y36) hy34)
            try simp only [List.drop_zero, ls]
            first | simp only [hk35] | rewrite [hk35]
            try simp only [ls]
            conv => lhs; whnf
            have hq := Option.some.inj hm; clear hm; subst hq
            try simp only [ls]
            exact fq (y := some (AV.tup [AV.sl 3 (List.map encOp (y36)), AV.bool (true)], []))
          | c1 y37 =>
            dsimp only at hm
            have hk35 : call false 31 [AV.sl 5 (List.map c_api_Node (v0_l)), AV.own 0 0 (List.length (x33)), AV.int .i64 (0)] [Ob.arr 3 (List.map encOp (x33))] = some (AV.own 0 ((y37).1) ((y37).2), [Ob.arr 3 (List.map encOp (x33))]) := (hc _ _ _).trans (ok_ref06_made n v0_l 0 x33 (.c1 y37) hy34)
            try simp only [List.drop_zero, ls]
            first | simp only [hk35] | rewrite [hk35]
            try simp only [ls]
            conv => lhs; whnf
            have hq := Option.some.inj hm; clear hm; subst hq
            try simp only [ls]
            exact fq (y := some (AV.tup [AV.sl 3 (List.take ((y37).2) (List.drop ((y37).1) (List.map encOp (x33)))), AV.bool (true)], []))
    · simp only [hc3, ls]
      conv => lhs; whnf
      have hq := Option.some.inj hm; clear hm; subst hq
      try simp only [ls]
      exact fq (y := some (AV.tup [AV.sl 3 [], AV.bool (false)], []))

end Go.Proofs.Ytmnnkeejgkhgpaa
end

section
namespace Go.Proofs.Ytmnnkeejgkhgpaa
set_option linter.unusedVariables false
set_option linter.unusedSimpArgs false
set_option maxRecDepth 100000

set_option maxHeartbeats 4000000 in
theorem ok_law06_CodeMakes (n : Nat) : ∀ (v0_l : (List S_api_Node)) (v1_regs : (List (List UInt8))) (v2_p : S_api_Prog) (r : Bool), m_law06_CodeMakes n v0_l v1_regs v2_p = some r → callN Try.prog HH XT n 3 [AV.sl 5 (List.map c_api_Node (v0_l)), AV.sl 1 (List.map encS (v1_regs)), AV.agg [AV.int .i64 (v2_p.f_Mod), AV.sl 3 (List.map c_api_Var (v2_p.f_Locs)), AV.sl 4 (List.map c_api_Thread (v2_p.f_Threads)), AV.sl 3 (List.map c_api_Claim (v2_p.f_Claims))]] [] = some (AV.bool (r), []) := by
  cases n with
  | zero => intro v0_l v1_regs v2_p r hm; exact absurd hm (by intro h; cases h)
  | succ n =>
    intro v0_l v1_regs v2_p r hm
    rw [m_law06_CodeMakes] at hm
    refine callN_eq' Try.func3 (by rfl) rfl rfl (Nat.le_of_ble_eq_true rfl) ?_
    intro call hc
    conv => lhs; whnf
    refine bind_some2 hm ?_; clear hm; intro y1 hy1 hm
    have hk2 : call false 8 [AV.sl 5 (List.map c_api_Node (v0_l))] [] = some (AV.bool (y1), []) := (hc _ _ _).trans (ok_ref02_Light n v0_l y1 hy1)
    try simp only [List.drop_zero, ls]
    first | simp only [hk2] | rewrite [hk2]
    try simp only [ls]
    conv => lhs; whnf
    refine bif_or2 hm ?_ ?_ <;> clear hm <;> intro hc3 hm
    · simp only [hc3, ls]
      conv => lhs; whnf
      refine bif_or2 hm ?_ ?_ <;> clear hm <;> intro hc4 hm
      · simp only [hc4, ls]
        conv => lhs; whnf
        refine bind_some2 hm ?_; clear hm; intro y5 hy5 hm
        have hk6 : call false 10 [] [] = some (AV.bool (y5), []) := (hc _ _ _).trans (ok_law06_known n  y5 hy5)
        try simp only [List.drop_zero, ls]
        first | simp only [hk6] | rewrite [hk6]
        try simp only [ls]
        conv => lhs; whnf
        have hq := Option.some.inj hm; clear hm; subst hq
        try simp only [ls]
        exact fq (y := some (AV.bool (y5), []))
      · simp only [hc4, ls]
        conv => lhs; whnf
        refine bind_some2 hm ?_; clear hm; intro y7 hy7 hm
        have hk8 : call false 9 [AV.agg [AV.int .i64 (v2_p.f_Mod), AV.sl 3 (List.map c_api_Var (v2_p.f_Locs)), AV.sl 4 (List.map c_api_Thread (v2_p.f_Threads)), AV.sl 3 (List.map c_api_Claim (v2_p.f_Claims))]] [] = some (AV.bool (y7), []) := (hc _ _ _).trans (ok_ref04_Light n v2_p y7 hy7)
        try simp only [List.drop_zero, ls]
        first | simp only [hk8] | rewrite [hk8]
        try simp only [ls]
        conv => lhs; whnf
        refine bif_or2 hm ?_ ?_ <;> clear hm <;> intro hc9 hm
        · simp only [hc9, ls]
          conv => lhs; whnf
          refine bind_some2 hm ?_; clear hm; intro o18 ho18 hm
          refine rounds_sim (σ := Int) (τ := Unit) (ν := Bool) 0 (fun s10 a12 => stOf 88 [(0, AV.sl 5 (List.map c_api_Node (v0_l))), (1, AV.sl 1 (List.map encS (v1_regs))), (5, AV.ptr 0 0), (7, AV.int .i64 (s10))]) (fun s10 a12 => [Ob.var 28 [AV.int .i64 (v2_p.f_Mod), AV.sl 3 (List.map c_api_Var (v2_p.f_Locs)), AV.sl 4 (List.map c_api_Thread (v2_p.f_Threads)), AV.sl 3 (List.map c_api_Claim (v2_p.f_Claims))]]) (fun _ a24 => stOf 88 [(0, AV.sl 5 (List.map c_api_Node (v0_l))), (1, AV.sl 1 (List.map encS (v1_regs))), (5, AV.ptr 0 0)]) (fun _ a24 => [Ob.var 28 [AV.int .i64 (v2_p.f_Mod), AV.sl 3 (List.map c_api_Var (v2_p.f_Locs)), AV.sl 4 (List.map c_api_Thread (v2_p.f_Threads)), AV.sl 3 (List.map c_api_Claim (v2_p.f_Claims))]]) (fun v => (AV.bool (v), [])) (fun k s => law06_CodeMakes_L0 n v1_regs k s) (fun s => rfl) o18 ?_ n 0 (fun _ => 0) _ _ ho18 ?_ (by first | rfl | (simp only [ls, List.map_append, List.map_cons, List.map_nil, List.append_nil, List.length_set, length_copyL] <;> rfl)) (by first | rfl | (simp only [ls, List.map_append, List.map_cons, List.map_nil, List.append_nil, List.length_set, length_copyL] <;> rfl))
          · intro k11 ss a12 K13 cont14 hK15 hcont16 hm hr17
            obtain ⟨s10, rfl⟩ : ∃ x, x = ss := ⟨_, rfl⟩
            replace hm : law06_CodeMakes_L0 n v1_regs (k11 + 1) s10 = some o18 := hm
            rw [law06_CodeMakes_L0] at hm
            conv => lhs; whnf
            refine bif_or2 hm ?_ ?_ <;> clear hm <;> intro hc19 hm
            · simp only [hc19, ls]
              conv => lhs; whnf
              refine bind_some2 hm ?_; clear hm; intro x20 hx20 hm
              refine bif_pos (by first | exact idx_in hx20 | exact idx_in' hx20) ?_
              simp only [idx_nth (f := encS) hx20, ls]
              conv => lhs; whnf
              refine bif_or2 hm ?_ ?_ <;> clear hm <;> intro hc21 hm
              · simp only [hc21, ls]
                conv => lhs; whnf
                refine bind_some2 hm ?_; clear hm; intro y22 hy22 hm
                have hk23 : call false 10 [] [] = some (AV.bool (y22), []) := (hc _ _ _).trans (ok_law06_known n  y22 hy22)
                try simp only [List.drop_zero, ls]
                first | simp only [hk23] | rewrite [hk23]
                try simp only [ls]
                conv => lhs; whnf
                have hq := Option.some.inj hm; clear hm; subst hq
                refine (hK15 _ _).trans ?_
                refine Eq.trans ?_ (Eq.symm (show _ = some _ from hr17))
                conv => lhs; whnf
                try simp only [ls]
                exact fq (y := some (AV.bool (y22), []))
              · simp only [hc21, ls]
                conv => lhs; whnf
                exact cq (hcont16 (IntKind.i64.wrap (s10 + 1)) (fun _ => 0) hm)
            · simp only [hc19, ls]
              conv => lhs; whnf
              have hq := Option.some.inj hm; clear hm; subst hq
              exact kq (hr17 (fun _ => 0))
          · cases o18 with
            | ret v =>
              have hq := Option.some.inj hm; clear hm; subst hq
              rfl
            | out t =>
              intro a24
              dsimp only at hm
              conv => lhs; whnf
              refine bind_some2 hm ?_; clear hm; intro y25 hy25 hm
              have hk26 : call false 11 [AV.sl 5 (List.map c_api_Node (v0_l)), AV.sl 1 (List.map encS (v1_regs))] [] = some (AV.tup [AV.sl 3 (List.map encOp ((y25).1)), AV.bool ((y25).2)], []) := (hc _ _ _).trans (ok_code_Thread n v0_l v1_regs y25 hy25)
              try simp only [List.drop_zero, ls]
              first | simp only [hk26] | rewrite [hk26]
              try simp only [ls]
              conv => lhs; whnf
              refine bind_some2 hm ?_; clear hm; intro y27 hy27 hm
              have hk28 : call false 12 [AV.sl 5 (List.map c_api_Node (v0_l)), AV.sl 1 (List.map encS (v1_regs))] [] = some (AV.tup [AV.sl 3 (List.map encOp ((y27).1)), AV.bool ((y27).2)], []) := (hc _ _ _).trans (ok_ref06_Thread n v0_l v1_regs y27 hy27)
              try simp only [List.drop_zero, ls]
              first | simp only [hk28] | rewrite [hk28]
              try simp only [ls]
              conv => lhs; whnf
              refine bind_some2 hm ?_; clear hm; intro y29 hy29 hm
              have hk30 : call false 13 [AV.sl 5 (List.map c_api_Node (v0_l)), AV.agg [AV.int .i64 (v2_p.f_Mod), AV.sl 3 (List.map c_api_Var (v2_p.f_Locs)), AV.sl 4 (List.map c_api_Thread (v2_p.f_Threads)), AV.sl 3 (List.map c_api_Claim (v2_p.f_Claims))]] [] = some (AV.tup [AV.sl 3 (List.map encOp ((y29).1)), AV.bool ((y29).2)], []) := (hc _ _ _).trans (ok_code_Claim n v0_l v2_p y29 hy29)
              try simp only [List.drop_zero, ls]
              first | simp only [hk30] | rewrite [hk30]
              try simp only [ls]
              conv => lhs; whnf
              refine bind_some2 hm ?_; clear hm; intro y31 hy31 hm
              have hk32 : call false 14 [AV.sl 5 (List.map c_api_Node (v0_l)), AV.agg [AV.int .i64 (v2_p.f_Mod), AV.sl 3 (List.map c_api_Var (v2_p.f_Locs)), AV.sl 4 (List.map c_api_Thread (v2_p.f_Threads)), AV.sl 3 (List.map c_api_Claim (v2_p.f_Claims))]] [] = some (AV.tup [AV.sl 3 (List.map encOp ((y31).1)), AV.bool ((y31).2)], []) := (hc _ _ _).trans (ok_ref06_Claim n v0_l v2_p y31 hy31)
              try simp only [List.drop_zero, ls]
              first | simp only [hk32] | rewrite [hk32]
              try simp only [ls]
              conv => lhs; whnf
              refine bind_some2 hm ?_; clear hm; intro y33 hy33 hm
              have hk34 : call false 15 [AV.sl 3 (List.map encOp ((y25).1)), AV.sl 3 (List.map encOp ((y27).1))] [] = some (AV.bool (y33), []) := (hc _ _ _).trans (ok_ref06_Same n ((y25).1) ((y27).1) y33 hy33)
              try simp only [List.drop_zero, ls]
              first | simp only [hk34] | rewrite [hk34]
              try simp only [ls]
              conv => lhs; whnf
              refine bif_or2 hm ?_ ?_ <;> clear hm <;> intro hc35 hm
              · simp only [hc35, ls]
                conv => lhs; whnf
                refine bif_or2 hm ?_ ?_ <;> clear hm <;> intro hc36 hm
                · simp only [hc36, ls]
                  conv => lhs; whnf
                  refine bind_some2 hm ?_; clear hm; intro y37 hy37 hm
                  have hk38 : call false 15 [AV.sl 3 (List.map encOp ((y29).1)), AV.sl 3 (List.map encOp ((y31).1))] [] = some (AV.bool (y37), []) := (hc _ _ _).trans (ok_ref06_Same n ((y29).1) ((y31).1) y37 hy37)
                  try simp only [List.drop_zero, ls]
                  first | simp only [hk38] | rewrite [hk38]
                  try simp only [ls]
                  conv => lhs; whnf
                  refine bif_or2 hm ?_ ?_ <;> clear hm <;> intro hc39 hm
                  · simp only [hc39, ls]
                    conv => lhs; whnf
                    refine bif_or2 hm ?_ ?_ <;> clear hm <;> intro hc40 hm
                    · simp only [hc40, ls]
                      conv => lhs; whnf
                      refine bind_some2 hm ?_; clear hm; intro y41 hy41 hm
                      have hk42 : call false 10 [] [] = some (AV.bool (y41), []) := (hc _ _ _).trans (ok_law06_known n  y41 hy41)
                      try simp only [List.drop_zero, ls]
                      first | simp only [hk42] | rewrite [hk42]
                      try simp only [ls]
                      conv => lhs; whnf
                      have hq := Option.some.inj hm; clear hm; subst hq
                      try simp only [ls]
                      exact fq (y := some (AV.bool (y41), []))
                    · simp only [hc40, ls]
                      conv => lhs; whnf
                      have hq := Option.some.inj hm; clear hm; subst hq
                      try simp only [ls]
                      exact fq (y := some (AV.bool (false), []))
                  · simp only [hc39, ls]
                    conv => lhs; whnf
                    have hq := Option.some.inj hm; clear hm; subst hq
                    try simp only [ls]
                    exact fq (y := some (AV.bool (false), []))
                · simp only [hc36, ls]
                  conv => lhs; whnf
                  have hq := Option.some.inj hm; clear hm; subst hq
                  try simp only [ls]
                  exact fq (y := some (AV.bool (false), []))
              · simp only [hc35, ls]
                conv => lhs; whnf
                have hq := Option.some.inj hm; clear hm; subst hq
                try simp only [ls]
                exact fq (y := some (AV.bool (false), []))
        · simp only [hc9, ls]
          conv => lhs; whnf
          refine bind_some2 hm ?_; clear hm; intro y44 hy44 hm
          have hk45 : call false 10 [] [] = some (AV.bool (y44), []) := (hc _ _ _).trans (ok_law06_known n  y44 hy44)
          try simp only [List.drop_zero, ls]
          first | simp only [hk45] | rewrite [hk45]
          try simp only [ls]
          conv => lhs; whnf
          have hq := Option.some.inj hm; clear hm; subst hq
          try simp only [ls]
          exact fq (y := some (AV.bool (y44), []))
    · simp only [hc3, ls]
      conv => lhs; whnf
      refine bind_some2 hm ?_; clear hm; intro y46 hy46 hm
      have hk47 : call false 10 [] [] = some (AV.bool (y46), []) := (hc _ _ _).trans (ok_law06_known n  y46 hy46)
      try simp only [List.drop_zero, ls]
      first | simp only [hk47] | rewrite [hk47]
      try simp only [ls]
      conv => lhs; whnf
      have hq := Option.some.inj hm; clear hm; subst hq
      try simp only [ls]
      exact fq (y := some (AV.bool (y46), []))
end Go.Proofs.Ytmnnkeejgkhgpaa
end

