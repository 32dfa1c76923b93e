/- Parts of the proofs: what they lean on. Conditions: none. -/
import Derived.Test.YtmnnkeejgkhgpaaCodeMakesP1
section
namespace Go.Proofs.Ytmnnkeejgkhgpaa
set_option linter.unusedVariables false
set_option linter.unusedSimpArgs false
set_option maxRecDepth 100000

def OK_code_maker_node_1 (n : Nat) : Prop := ∀ (v1_i : Int) (m_l : (List S_api_Node)) (m_out : (List OpS)) (m_ok : Bool) (o1 : (List (List UInt8))) (o2_Mod : Int) (o2_Locs : (List S_api_Var)) (o2_Threads : (List S_api_Thread)) (o2_Claims : (List S_api_Claim)) (r : (Int × (List OpS) × Bool)), m_code_maker_node_1 n v1_i m_l m_out m_ok o1 o2_Mod o2_Locs o2_Threads o2_Claims = some r → callN Try.prog HH XT n 45 [AV.ptr 0 0, AV.int .i64 (v1_i)] [Ob.var 87 [AV.sl 5 (List.map c_api_Node (m_l)), AV.func 33 [] [AV.ptr 1 0, AV.ptr 2 0], AV.row 3 (List.length (m_out)), AV.bool (m_ok)], Ob.var 23 [AV.sl 1 (List.map encS (o1))], Ob.var 28 [AV.int .i64 (o2_Mod), AV.sl 3 (List.map c_api_Var (o2_Locs)), AV.sl 4 (List.map c_api_Thread (o2_Threads)), AV.sl 3 (List.map c_api_Claim (o2_Claims))], Ob.row 53 3 (List.map encOp (m_out))] = some (AV.int .i64 ((r).1), [Ob.var 87 [AV.sl 5 (List.map c_api_Node (m_l)), AV.func 33 [] [AV.ptr 1 0, AV.ptr 2 0], AV.row 3 (List.length ((r).2.1)), AV.bool ((r).2.2)], Ob.var 23 [AV.sl 1 (List.map encS (o1))], Ob.var 28 [AV.int .i64 (o2_Mod), AV.sl 3 (List.map c_api_Var (o2_Locs)), AV.sl 4 (List.map c_api_Thread (o2_Threads)), AV.sl 3 (List.map c_api_Claim (o2_Claims))], Ob.row 53 3 (List.map encOp ((r).2.1))])
set_option maxHeartbeats 4000000 in
theorem st_code_maker_node_1 (n : Nat) (ih_code_maker_node_1 : OK_code_maker_node_1 n) : OK_code_maker_node_1 (n + 1) := by
  intro v1_i m_l m_out m_ok o1 o2_Mod o2_Locs o2_Threads o2_Claims r hm
  rw [m_code_maker_node_1] at hm
  refine callN_eq' Try.func45 (by rfl) rfl rfl (Nat.le_of_ble_eq_true rfl) ?_
  intro call hc
  conv => lhs; whnf
  refine bind_some2 hm ?_; clear hm; intro x1 hx1 hm
  refine bif_pos (by first | exact idx_in hx1 | exact idx_in' hx1) ?_
  simp only [idx_nth (f := c_api_Node) hx1, ls]
  conv => lhs; whnf
  refine bind_some2 hm ?_; clear hm; intro y2 hy2 hm
  cases y2 with
  | c0 y4 =>
    dsimp only at hm
    have hk3 : call false 37 [AV.int .i64 (x1.f_Op)] [] = some (AV.tup [AV.agg [AV.int .i64 ((y4).1), AV.nilf], AV.bool ((y4).2)], []) := (hc _ _ _).trans (ok_code_of n x1.f_Op (.c0 y4) hy2)
    try simp only [List.drop_zero, ls]
    first | simp only [hk3] | rewrite [hk3]
    try simp only [ls]
    conv => lhs; whnf
    refine bif_or2 hm ?_ ?_ <;> clear hm <;> intro hc15 hm
    · simp only [hc15, ls]
      conv => lhs; whnf
      refine bind_some2 hm ?_; clear hm; intro o27 ho27 hm
      refine rounds_sim (σ := (Int × Int × Bool × (List OpS))) (τ := (Int × Bool × (List OpS))) (ν := (Int × (List OpS) × Bool)) 0 (fun (s16, s17, s18, s19) a21 => stOf 80 [(0, AV.ptr 0 0), (5, AV.ptr 4 0), (10, AV.int .i64 (s16)), (60, AV.int .i64 ((y4).1)), (61, AV.int .i64 (s17))]) (fun (s16, s17, s18, s19) a21 => [Ob.var 87 [AV.sl 5 (List.map c_api_Node (m_l)), AV.func 33 [] [AV.ptr 1 0, AV.ptr 2 0], AV.row 3 (List.length (s19)), AV.bool (s18)], Ob.var 23 [AV.sl 1 (List.map encS (o1))], Ob.var 28 [AV.int .i64 (o2_Mod), AV.sl 3 (List.map c_api_Var (o2_Locs)), AV.sl 4 (List.map c_api_Thread (o2_Threads)), AV.sl 3 (List.map c_api_Claim (o2_Claims))], Ob.row 53 3 (List.map encOp (s19)), Ob.var 57 [AV.int .i64 (x1.f_Op), AV.int .i64 (x1.f_N), AV.str (x1.f_Name), AV.str (x1.f_In), AV.int .i64 (x1.f_At)], Ob.var 74 [AV.int .i64 ((y4).1), AV.nilf]]) (fun (x32, x33, x34) a31 => stOf 80 [(0, AV.ptr 0 0), (5, AV.ptr 4 0), (10, AV.int .i64 (x32))]) (fun (x32, x33, x34) a31 => [Ob.var 87 [AV.sl 5 (List.map c_api_Node (m_l)), AV.func 33 [] [AV.ptr 1 0, AV.ptr 2 0], AV.row 3 (List.length (x34)), AV.bool (x33)], Ob.var 23 [AV.sl 1 (List.map encS (o1))], Ob.var 28 [AV.int .i64 (o2_Mod), AV.sl 3 (List.map c_api_Var (o2_Locs)), AV.sl 4 (List.map c_api_Thread (o2_Threads)), AV.sl 3 (List.map c_api_Claim (o2_Claims))], Ob.row 53 3 (List.map encOp (x34)), Ob.var 57 [AV.int .i64 (x1.f_Op), AV.int .i64 (x1.f_N), AV.str (x1.f_Name), AV.str (x1.f_In), AV.int .i64 (x1.f_At)], Ob.var 74 [AV.int .i64 ((y4).1), AV.nilf]]) (fun v => (AV.int .i64 ((v).1), [Ob.var 87 [AV.sl 5 (List.map c_api_Node (m_l)), AV.func 33 [] [AV.ptr 1 0, AV.ptr 2 0], AV.row 3 (List.length ((v).2.1)), AV.bool ((v).2.2)], Ob.var 23 [AV.sl 1 (List.map encS (o1))], Ob.var 28 [AV.int .i64 (o2_Mod), AV.sl 3 (List.map c_api_Var (o2_Locs)), AV.sl 4 (List.map c_api_Thread (o2_Threads)), AV.sl 3 (List.map c_api_Claim (o2_Claims))], Ob.row 53 3 (List.map encOp ((v).2.1))])) (fun k s => code_maker_node_1_L0 n (m_code_maker_node_1 n) m_l o1 o2_Mod o2_Locs o2_Threads o2_Claims y4 k ((s).1) ((s).2.1) ((s).2.2.1) ((s).2.2.2)) (fun s => rfl) o27 ?_ n (IntKind.i64.wrap (v1_i + 1), 0, m_ok, m_out) (fun _ => 0) _ _ ho27 ?_ (by first | rfl | (simp only [ls, List.map_append, List.map_cons, List.map_nil, List.append_nil, List.length_set, length_copyL] <;> rfl)) (by first | rfl | (simp only [ls, List.map_append, List.map_cons, List.map_nil, List.append_nil, List.length_set, length_copyL] <;> rfl))
      · intro k20 ss a21 K22 cont23 hK24 hcont25 hm hr26
        obtain ⟨s16, s17, s18, s19⟩ := ss
        replace hm : code_maker_node_1_L0 n (m_code_maker_node_1 n) m_l o1 o2_Mod o2_Locs o2_Threads o2_Claims y4 (k20 + 1) s16 s17 s18 s19 = some o27 := hm
        rw [code_maker_node_1_L0] at hm
        conv => lhs; whnf
        refine bif_or2 hm ?_ ?_ <;> clear hm <;> intro hc28 hm
        · simp only [hc28, ls]
          conv => lhs; whnf
          refine bind_some2 hm ?_; clear hm; intro y29 hy29 hm
          have hk30 : call false 45 [AV.ptr 0 0, AV.int .i64 (s16)] [Ob.var 87 [AV.sl 5 (List.map c_api_Node (m_l)), AV.func 33 [] [AV.ptr 1 0, AV.ptr 2 0], AV.row 3 (List.length (s19)), AV.bool (s18)], Ob.var 23 [AV.sl 1 (List.map encS (o1))], Ob.var 28 [AV.int .i64 (o2_Mod), AV.sl 3 (List.map c_api_Var (o2_Locs)), AV.sl 4 (List.map c_api_Thread (o2_Threads)), AV.sl 3 (List.map c_api_Claim (o2_Claims))], Ob.row 53 3 (List.map encOp (s19))] = some (AV.int .i64 ((y29).1), [Ob.var 87 [AV.sl 5 (List.map c_api_Node (m_l)), AV.func 33 [] [AV.ptr 1 0, AV.ptr 2 0], AV.row 3 (List.length ((y29).2.1)), AV.bool ((y29).2.2)], Ob.var 23 [AV.sl 1 (List.map encS (o1))], Ob.var 28 [AV.int .i64 (o2_Mod), AV.sl 3 (List.map c_api_Var (o2_Locs)), AV.sl 4 (List.map c_api_Thread (o2_Threads)), AV.sl 3 (List.map c_api_Claim (o2_Claims))], Ob.row 53 3 (List.map encOp ((y29).2.1))]) := (hc _ _ _).trans (ih_code_maker_node_1 s16 m_l s19 s18 o1 o2_Mod o2_Locs o2_Threads o2_Claims y29 hy29)
          try simp only [List.drop_zero, ls]
          first | simp only [hk30] | rewrite [hk30]
          try simp only [ls]
          conv => lhs; whnf
          exact cq (hcont25 ((y29).1, IntKind.i64.wrap (s17 + 1), (y29).2.2, (y29).2.1) (fun _ => 0) hm)
        · simp only [hc28, ls]
          conv => lhs; whnf
          have hq := Option.some.inj hm; clear hm; subst hq
          exact kq (hr26 (fun _ => 0))
      · cases o27 with
        | ret v =>
          have hq := Option.some.inj hm; clear hm; subst hq
          rfl
        | out t =>
          obtain ⟨x32, x33, x34⟩ := t
          intro a31
          dsimp only at hm
          conv => lhs; whnf
          refine chk_some2 hm ?_; clear hm; intro hc37 hm
          refine bif_pos (app_row hc37 (by first | rfl | simp only [List.length_map]) (by first | rfl | simp only [List.length_map]) (by first | rfl | simp only [List.length_map, take_map_len]) (by kernel_rfl)) ?_
          try simp only [lt]
          have hp35 : (List.map encOp (x34) : List (List AV)) ++ [[AV.int .i64 (x1.f_Op), AV.int .i64 (0), AV.int .i64 (0)]] = List.map encOp (x34 ++ ([(⟨x1.f_Op, 0, 0⟩ : OpS)] : List OpS)) := by first | rfl | (rw [List.map_append]; rfl) | (rw [List.map_append]; done) | (simp only [List.map_append, List.map_cons, List.map_nil, List.nil_append, encOp] <;> rfl)
          have hl36 : List.length (List.map encOp (x34) : List (List AV)) + List.length ([[AV.int .i64 (x1.f_Op), AV.int .i64 (0), AV.int .i64 (0)]] : List (List AV)) = List.length (x34 ++ ([(⟨x1.f_Op, 0, 0⟩ : OpS)] : List OpS)) := by simp only [List.length_map, List.length_append] <;> rfl
          have hl36_b : List.length x34 + List.length ([[AV.int .i64 (x1.f_Op), AV.int .i64 (0), AV.int .i64 (0)]] : List (List AV)) = List.length (x34 ++ ([(⟨x1.f_Op, 0, 0⟩ : OpS)] : List OpS)) := by simp only [List.length_map, List.length_append] <;> rfl
          have hl36_c : List.length x34 + List.length ([(⟨x1.f_Op, 0, 0⟩ : OpS)] : List OpS) = List.length (x34 ++ ([(⟨x1.f_Op, 0, 0⟩ : OpS)] : List OpS)) := by simp only [List.length_map, List.length_append] <;> rfl
          first | simp only [hp35, hl36] | (simp only [List.length_map, take_map_len]; simp only [hp35, hl36_b, hl36_c])
          try simp only [ls]
          conv => lhs; whnf
          have hq := Option.some.inj hm; clear hm; subst hq
          try simp only [ls]
          exact fq (y := some (AV.int .i64 (x32), [Ob.var 87 [AV.sl 5 (List.map c_api_Node (m_l)), AV.func 33 [] [AV.ptr 1 0, AV.ptr 2 0], AV.row 3 (List.length ((x34 ++ ([(⟨x1.f_Op, 0, 0⟩ : OpS)] : List OpS)))), AV.bool (x33)], Ob.var 23 [AV.sl 1 (List.map encS (o1))], Ob.var 28 [AV.int .i64 (o2_Mod), AV.sl 3 (List.map c_api_Var (o2_Locs)), AV.sl 4 (List.map c_api_Thread (o2_Threads)), AV.sl 3 (List.map c_api_Claim (o2_Claims))], Ob.row 53 3 (List.map encOp (x34 ++ ([(⟨x1.f_Op, 0, 0⟩ : OpS)] : List OpS)))]))
    · simp only [hc15, ls]
      conv => lhs; whnf
      refine bind_some2 hm ?_; clear hm; intro y39 hy39 hm
      have hk40 : call false 33 [AV.agg [AV.int .i64 (x1.f_Op), AV.int .i64 (x1.f_N), AV.str (x1.f_Name), AV.str (x1.f_In), AV.int .i64 (x1.f_At)], AV.ptr 0 0, AV.ptr 1 0] [Ob.var 23 [AV.sl 1 (List.map encS (o1))], Ob.var 28 [AV.int .i64 (o2_Mod), AV.sl 3 (List.map c_api_Var (o2_Locs)), AV.sl 4 (List.map c_api_Thread (o2_Threads)), AV.sl 3 (List.map c_api_Claim (o2_Claims))]] = some (AV.tup [AV.agg [AV.int .i64 ((y39).1.op), AV.int .i64 ((y39).1.n), AV.int .i64 ((y39).1.t)], AV.bool ((y39).2)], [Ob.var 23 [AV.sl 1 (List.map encS (o1))], Ob.var 28 [AV.int .i64 (o2_Mod), AV.sl 3 (List.map c_api_Var (o2_Locs)), AV.sl 4 (List.map c_api_Thread (o2_Threads)), AV.sl 3 (List.map c_api_Claim (o2_Claims))]]) := (hc _ _ _).trans (ok_code_Claim_1 n x1 o1 o2_Mod o2_Locs o2_Threads o2_Claims y39 hy39)
      try simp only [List.drop_zero, ls]
      first | simp only [hk40] | rewrite [hk40]
      try simp only [ls]
      conv => lhs; whnf
      refine bif_or2 hm ?_ ?_ <;> clear hm <;> intro hc41 hm
      · simp only [hc41, ls]
        conv => lhs; whnf
        refine chk_some2 hm ?_; clear hm; intro hc44 hm
        refine bif_pos (app_row hc44 (by first | rfl | simp only [List.length_map]) (by first | rfl | simp only [List.length_map]) (by first | rfl | simp only [List.length_map, take_map_len]) (by kernel_rfl)) ?_
        try simp only [lt]
        have hp42 : (List.map encOp (m_out) : List (List AV)) ++ [[AV.int .i64 ((y39).1.op), AV.int .i64 ((y39).1.n), AV.int .i64 ((y39).1.t)]] = List.map encOp (m_out ++ ([(y39).1] : List OpS)) := by first | rfl | (rw [List.map_append]; rfl) | (rw [List.map_append]; done) | (simp only [List.map_append, List.map_cons, List.map_nil, List.nil_append, encOp] <;> rfl)
        have hl43 : List.length (List.map encOp (m_out) : List (List AV)) + List.length ([[AV.int .i64 ((y39).1.op), AV.int .i64 ((y39).1.n), AV.int .i64 ((y39).1.t)]] : List (List AV)) = List.length (m_out ++ ([(y39).1] : List OpS)) := by simp only [List.length_map, List.length_append] <;> rfl
        have hl43_b : List.length m_out + List.length ([[AV.int .i64 ((y39).1.op), AV.int .i64 ((y39).1.n), AV.int .i64 ((y39).1.t)]] : List (List AV)) = List.length (m_out ++ ([(y39).1] : List OpS)) := by simp only [List.length_map, List.length_append] <;> rfl
        have hl43_c : List.length m_out + List.length ([(y39).1] : List OpS) = List.length (m_out ++ ([(y39).1] : List OpS)) := by simp only [List.length_map, List.length_append] <;> rfl
        first | simp only [hp42, hl43] | (simp only [List.length_map, take_map_len]; simp only [hp42, hl43_b, hl43_c])
        try simp only [ls]
        conv => lhs; whnf
        have hq := Option.some.inj hm; clear hm; subst hq
        try simp only [ls]
        exact fq (y := some (AV.int .i64 (IntKind.i64.wrap (v1_i + 1)), [Ob.var 87 [AV.sl 5 (List.map c_api_Node (m_l)), AV.func 33 [] [AV.ptr 1 0, AV.ptr 2 0], AV.row 3 (List.length ((m_out ++ ([(y39).1] : List OpS)))), AV.bool ((y39).2)], Ob.var 23 [AV.sl 1 (List.map encS (o1))], Ob.var 28 [AV.int .i64 (o2_Mod), AV.sl 3 (List.map c_api_Var (o2_Locs)), AV.sl 4 (List.map c_api_Thread (o2_Threads)), AV.sl 3 (List.map c_api_Claim (o2_Claims))], Ob.row 53 3 (List.map encOp (m_out ++ ([(y39).1] : List OpS)))]))
      · simp only [hc41, ls]
        conv => lhs; whnf
        refine chk_some2 hm ?_; clear hm; intro hc47 hm
        refine bif_pos (app_row hc47 (by first | rfl | simp only [List.length_map]) (by first | rfl | simp only [List.length_map]) (by first | rfl | simp only [List.length_map, take_map_len]) (by kernel_rfl)) ?_
        try simp only [lt]
        have hp45 : (List.map encOp (m_out) : List (List AV)) ++ [[AV.int .i64 ((y39).1.op), AV.int .i64 ((y39).1.n), AV.int .i64 ((y39).1.t)]] = List.map encOp (m_out ++ ([(y39).1] : List OpS)) := by first | rfl | (rw [List.map_append]; rfl) | (rw [List.map_append]; done) | (simp only [List.map_append, List.map_cons, List.map_nil, List.nil_append, encOp] <;> rfl)
        have hl46 : List.length (List.map encOp (m_out) : List (List AV)) + List.length ([[AV.int .i64 ((y39).1.op), AV.int .i64 ((y39).1.n), AV.int .i64 ((y39).1.t)]] : List (List AV)) = List.length (m_out ++ ([(y39).1] : List OpS)) := by simp only [List.length_map, List.length_append] <;> rfl
        have hl46_b : List.length m_out + List.length ([[AV.int .i64 ((y39).1.op), AV.int .i64 ((y39).1.n), AV.int .i64 ((y39).1.t)]] : List (List AV)) = List.length (m_out ++ ([(y39).1] : List OpS)) := by simp only [List.length_map, List.length_append] <;> rfl
        have hl46_c : List.length m_out + List.length ([(y39).1] : List OpS) = List.length (m_out ++ ([(y39).1] : List OpS)) := by simp only [List.length_map, List.length_append] <;> rfl
        first | simp only [hp45, hl46] | (simp only [List.length_map, take_map_len]; simp only [hp45, hl46_b, hl46_c])
        try simp only [ls]
        conv => lhs; whnf
        have hq := Option.some.inj hm; clear hm; subst hq
        try simp only [ls]
        exact fq (y := some (AV.int .i64 (IntKind.i64.wrap (v1_i + 1)), [Ob.var 87 [AV.sl 5 (List.map c_api_Node (m_l)), AV.func 33 [] [AV.ptr 1 0, AV.ptr 2 0], AV.row 3 (List.length ((m_out ++ ([(y39).1] : List OpS)))), AV.bool (false)], Ob.var 23 [AV.sl 1 (List.map encS (o1))], Ob.var 28 [AV.int .i64 (o2_Mod), AV.sl 3 (List.map c_api_Var (o2_Locs)), AV.sl 4 (List.map c_api_Thread (o2_Threads)), AV.sl 3 (List.map c_api_Claim (o2_Claims))], Ob.row 53 3 (List.map encOp (m_out ++ ([(y39).1] : List OpS)))]))
  | c1 y5 =>
    dsimp only at hm
    have hk3 : call false 37 [AV.int .i64 (x1.f_Op)] [] = some (AV.tup [AV.agg [AV.int .i64 ((y5).1), AV.func 59 [] []], AV.bool ((y5).2)], []) := (hc _ _ _).trans (ok_code_of n x1.f_Op (.c1 y5) hy2)
    try simp only [List.drop_zero, ls]
    first | simp only [hk3] | rewrite [hk3]
    try simp only [ls]
    conv => lhs; whnf
    refine bif_or2 hm ?_ ?_ <;> clear hm <;> intro hc48 hm
    · simp only [hc48, ls]
      conv => lhs; whnf
      refine bind_some2 hm ?_; clear hm; intro o60 ho60 hm
      refine rounds_sim (σ := (Int × Int × Bool × (List OpS))) (τ := (Int × Bool × (List OpS))) (ν := (Int × (List OpS) × Bool)) 0 (fun (s49, s50, s51, s52) a54 => stOf 80 [(0, AV.ptr 0 0), (5, AV.ptr 4 0), (10, AV.int .i64 (s49)), (60, AV.int .i64 ((y5).1)), (61, AV.int .i64 (s50))]) (fun (s49, s50, s51, s52) a54 => [Ob.var 87 [AV.sl 5 (List.map c_api_Node (m_l)), AV.func 33 [] [AV.ptr 1 0, AV.ptr 2 0], AV.row 3 (List.length (s52)), AV.bool (s51)], Ob.var 23 [AV.sl 1 (List.map encS (o1))], Ob.var 28 [AV.int .i64 (o2_Mod), AV.sl 3 (List.map c_api_Var (o2_Locs)), AV.sl 4 (List.map c_api_Thread (o2_Threads)), AV.sl 3 (List.map c_api_Claim (o2_Claims))], Ob.row 53 3 (List.map encOp (s52)), Ob.var 57 [AV.int .i64 (x1.f_Op), AV.int .i64 (x1.f_N), AV.str (x1.f_Name), AV.str (x1.f_In), AV.int .i64 (x1.f_At)], Ob.var 74 [AV.int .i64 ((y5).1), AV.func 59 [] []]]) (fun (x65, x66, x67) a64 => stOf 80 [(0, AV.ptr 0 0), (5, AV.ptr 4 0), (10, AV.int .i64 (x65))]) (fun (x65, x66, x67) a64 => [Ob.var 87 [AV.sl 5 (List.map c_api_Node (m_l)), AV.func 33 [] [AV.ptr 1 0, AV.ptr 2 0], AV.row 3 (List.length (x67)), AV.bool (x66)], Ob.var 23 [AV.sl 1 (List.map encS (o1))], Ob.var 28 [AV.int .i64 (o2_Mod), AV.sl 3 (List.map c_api_Var (o2_Locs)), AV.sl 4 (List.map c_api_Thread (o2_Threads)), AV.sl 3 (List.map c_api_Claim (o2_Claims))], Ob.row 53 3 (List.map encOp (x67)), Ob.var 57 [AV.int .i64 (x1.f_Op), AV.int .i64 (x1.f_N), AV.str (x1.f_Name), AV.str (x1.f_In), AV.int .i64 (x1.f_At)], Ob.var 74 [AV.int .i64 ((y5).1), AV.func 59 [] []]]) (fun v => (AV.int .i64 ((v).1), [Ob.var 87 [AV.sl 5 (List.map c_api_Node (m_l)), AV.func 33 [] [AV.ptr 1 0, AV.ptr 2 0], AV.row 3 (List.length ((v).2.1)), AV.bool ((v).2.2)], Ob.var 23 [AV.sl 1 (List.map encS (o1))], Ob.var 28 [AV.int .i64 (o2_Mod), AV.sl 3 (List.map c_api_Var (o2_Locs)), AV.sl 4 (List.map c_api_Thread (o2_Threads)), AV.sl 3 (List.map c_api_Claim (o2_Claims))], Ob.row 53 3 (List.map encOp ((v).2.1))])) (fun k s => code_maker_node_1_L1 n (m_code_maker_node_1 n) m_l o1 o2_Mod o2_Locs o2_Threads o2_Claims y5 k ((s).1) ((s).2.1) ((s).2.2.1) ((s).2.2.2)) (fun s => rfl) o60 ?_ n (IntKind.i64.wrap (v1_i + 1), 0, m_ok, m_out) (fun _ => 0) _ _ ho60 ?_ (by first | rfl | (simp only [ls, List.map_append, List.map_cons, List.map_nil, List.append_nil, List.length_set, length_copyL] <;> rfl)) (by first | rfl | (simp only [ls, List.map_append, List.map_cons, List.map_nil, List.append_nil, List.length_set, length_copyL] <;> rfl))
      · intro k53 ss a54 K55 cont56 hK57 hcont58 hm hr59
        obtain ⟨s49, s50, s51, s52⟩ := ss
        replace hm : code_maker_node_1_L1 n (m_code_maker_node_1 n) m_l o1 o2_Mod o2_Locs o2_Threads o2_Claims y5 (k53 + 1) s49 s50 s51 s52 = some o60 := hm
        rw [code_maker_node_1_L1] at hm
        conv => lhs; whnf
        refine bif_or2 hm ?_ ?_ <;> clear hm <;> intro hc61 hm
        · simp only [hc61, ls]
          conv => lhs; whnf
          refine bind_some2 hm ?_; clear hm; intro y62 hy62 hm
          have hk63 : call false 45 [AV.ptr 0 0, AV.int .i64 (s49)] [Ob.var 87 [AV.sl 5 (List.map c_api_Node (m_l)), AV.func 33 [] [AV.ptr 1 0, AV.ptr 2 0], AV.row 3 (List.length (s52)), AV.bool (s51)], Ob.var 23 [AV.sl 1 (List.map encS (o1))], Ob.var 28 [AV.int .i64 (o2_Mod), AV.sl 3 (List.map c_api_Var (o2_Locs)), AV.sl 4 (List.map c_api_Thread (o2_Threads)), AV.sl 3 (List.map c_api_Claim (o2_Claims))], Ob.row 53 3 (List.map encOp (s52))] = some (AV.int .i64 ((y62).1), [Ob.var 87 [AV.sl 5 (List.map c_api_Node (m_l)), AV.func 33 [] [AV.ptr 1 0, AV.ptr 2 0], AV.row 3 (List.length ((y62).2.1)), AV.bool ((y62).2.2)], Ob.var 23 [AV.sl 1 (List.map encS (o1))], Ob.var 28 [AV.int .i64 (o2_Mod), AV.sl 3 (List.map c_api_Var (o2_Locs)), AV.sl 4 (List.map c_api_Thread (o2_Threads)), AV.sl 3 (List.map c_api_Claim (o2_Claims))], Ob.row 53 3 (List.map encOp ((y62).2.1))]) := (hc _ _ _).trans (ih_code_maker_node_1 s49 m_l s52 s51 o1 o2_Mod o2_Locs o2_Threads o2_Claims y62 hy62)
          try simp only [List.drop_zero, ls]
          first | simp only [hk63] | rewrite [hk63]
          try simp only [ls]
          conv => lhs; whnf
          exact cq (hcont58 ((y62).1, IntKind.i64.wrap (s50 + 1), (y62).2.2, (y62).2.1) (fun _ => 0) hm)
        · simp only [hc61, ls]
          conv => lhs; whnf
          have hq := Option.some.inj hm; clear hm; subst hq
          exact kq (hr59 (fun _ => 0))
      · cases o60 with
        | ret v =>
          have hq := Option.some.inj hm; clear hm; subst hq
          rfl
        | out t =>
          obtain ⟨x65, x66, x67⟩ := t
          intro a64
          dsimp only at hm
          conv => lhs; whnf
          refine chk_some2 hm ?_; clear hm; intro hc70 hm
          refine bif_pos (app_row hc70 (by first | rfl | simp only [List.length_map]) (by first | rfl | simp only [List.length_map]) (by first | rfl | simp only [List.length_map, take_map_len]) (by kernel_rfl)) ?_
          try simp only [lt]
          have hp68 : (List.map encOp (x67) : List (List AV)) ++ [[AV.int .i64 (x1.f_Op), AV.int .i64 (0), AV.int .i64 (0)]] = List.map encOp (x67 ++ ([(⟨x1.f_Op, 0, 0⟩ : OpS)] : List OpS)) := by first | rfl | (rw [List.map_append]; rfl) | (rw [List.map_append]; done) | (simp only [List.map_append, List.map_cons, List.map_nil, List.nil_append, encOp] <;> rfl)
          have hl69 : List.length (List.map encOp (x67) : List (List AV)) + List.length ([[AV.int .i64 (x1.f_Op), AV.int .i64 (0), AV.int .i64 (0)]] : List (List AV)) = List.length (x67 ++ ([(⟨x1.f_Op, 0, 0⟩ : OpS)] : List OpS)) := by simp only [List.length_map, List.length_append] <;> rfl
          have hl69_b : List.length x67 + List.length ([[AV.int .i64 (x1.f_Op), AV.int .i64 (0), AV.int .i64 (0)]] : List (List AV)) = List.length (x67 ++ ([(⟨x1.f_Op, 0, 0⟩ : OpS)] : List OpS)) := by simp only [List.length_map, List.length_append] <;> rfl
          have hl69_c : List.length x67 + List.length ([(⟨x1.f_Op, 0, 0⟩ : OpS)] : List OpS) = List.length (x67 ++ ([(⟨x1.f_Op, 0, 0⟩ : OpS)] : List OpS)) := by simp only [List.length_map, List.length_append] <;> rfl
          first | simp only [hp68, hl69] | (simp only [List.length_map, take_map_len]; simp only [hp68, hl69_b, hl69_c])
          try simp only [ls]
          conv => lhs; whnf
          have hq := Option.some.inj hm; clear hm; subst hq
          try simp only [ls]
          exact fq (y := some (AV.int .i64 (x65), [Ob.var 87 [AV.sl 5 (List.map c_api_Node (m_l)), AV.func 33 [] [AV.ptr 1 0, AV.ptr 2 0], AV.row 3 (List.length ((x67 ++ ([(⟨x1.f_Op, 0, 0⟩ : OpS)] : List OpS)))), AV.bool (x66)], Ob.var 23 [AV.sl 1 (List.map encS (o1))], Ob.var 28 [AV.int .i64 (o2_Mod), AV.sl 3 (List.map c_api_Var (o2_Locs)), AV.sl 4 (List.map c_api_Thread (o2_Threads)), AV.sl 3 (List.map c_api_Claim (o2_Claims))], Ob.row 53 3 (List.map encOp (x67 ++ ([(⟨x1.f_Op, 0, 0⟩ : OpS)] : List OpS)))]))
    · simp only [hc48, ls]
      conv => lhs; whnf
      refine bind_some2 hm ?_; clear hm; intro y72 hy72 hm
      have hk73 : call false 33 [AV.agg [AV.int .i64 (x1.f_Op), AV.int .i64 (x1.f_N), AV.str (x1.f_Name), AV.str (x1.f_In), AV.int .i64 (x1.f_At)], AV.ptr 0 0, AV.ptr 1 0] [Ob.var 23 [AV.sl 1 (List.map encS (o1))], Ob.var 28 [AV.int .i64 (o2_Mod), AV.sl 3 (List.map c_api_Var (o2_Locs)), AV.sl 4 (List.map c_api_Thread (o2_Threads)), AV.sl 3 (List.map c_api_Claim (o2_Claims))]] = some (AV.tup [AV.agg [AV.int .i64 ((y72).1.op), AV.int .i64 ((y72).1.n), AV.int .i64 ((y72).1.t)], AV.bool ((y72).2)], [Ob.var 23 [AV.sl 1 (List.map encS (o1))], Ob.var 28 [AV.int .i64 (o2_Mod), AV.sl 3 (List.map c_api_Var (o2_Locs)), AV.sl 4 (List.map c_api_Thread (o2_Threads)), AV.sl 3 (List.map c_api_Claim (o2_Claims))]]) := (hc _ _ _).trans (ok_code_Claim_1 n x1 o1 o2_Mod o2_Locs o2_Threads o2_Claims y72 hy72)
      try simp only [List.drop_zero, ls]
      first | simp only [hk73] | rewrite [hk73]
      try simp only [ls]
      conv => lhs; whnf
      refine bif_or2 hm ?_ ?_ <;> clear hm <;> intro hc74 hm
      · simp only [hc74, ls]
        conv => lhs; whnf
        refine chk_some2 hm ?_; clear hm; intro hc77 hm
        refine bif_pos (app_row hc77 (by first | rfl | simp only [List.length_map]) (by first | rfl | simp only [List.length_map]) (by first | rfl | simp only [List.length_map, take_map_len]) (by kernel_rfl)) ?_
        try simp only [lt]
        have hp75 : (List.map encOp (m_out) : List (List AV)) ++ [[AV.int .i64 ((y72).1.op), AV.int .i64 ((y72).1.n), AV.int .i64 ((y72).1.t)]] = List.map encOp (m_out ++ ([(y72).1] : List OpS)) := by first | rfl | (rw [List.map_append]; rfl) | (rw [List.map_append]; done) | (simp only [List.map_append, List.map_cons, List.map_nil, List.nil_append, encOp] <;> rfl)
        have hl76 : List.length (List.map encOp (m_out) : List (List AV)) + List.length ([[AV.int .i64 ((y72).1.op), AV.int .i64 ((y72).1.n), AV.int .i64 ((y72).1.t)]] : List (List AV)) = List.length (m_out ++ ([(y72).1] : List OpS)) := by simp only [List.length_map, List.length_append] <;> rfl
        have hl76_b : List.length m_out + List.length ([[AV.int .i64 ((y72).1.op), AV.int .i64 ((y72).1.n), AV.int .i64 ((y72).1.t)]] : List (List AV)) = List.length (m_out ++ ([(y72).1] : List OpS)) := by simp only [List.length_map, List.length_append] <;> rfl
        have hl76_c : List.length m_out + List.length ([(y72).1] : List OpS) = List.length (m_out ++ ([(y72).1] : List OpS)) := by simp only [List.length_map, List.length_append] <;> rfl
        first | simp only [hp75, hl76] | (simp only [List.length_map, take_map_len]; simp only [hp75, hl76_b, hl76_c])
        try simp only [ls]
        conv => lhs; whnf
        have hq := Option.some.inj hm; clear hm; subst hq
        try simp only [ls]
        exact fq (y := some (AV.int .i64 (IntKind.i64.wrap (v1_i + 1)), [Ob.var 87 [AV.sl 5 (List.map c_api_Node (m_l)), AV.func 33 [] [AV.ptr 1 0, AV.ptr 2 0], AV.row 3 (List.length ((m_out ++ ([(y72).1] : List OpS)))), AV.bool ((y72).2)], Ob.var 23 [AV.sl 1 (List.map encS (o1))], Ob.var 28 [AV.int .i64 (o2_Mod), AV.sl 3 (List.map c_api_Var (o2_Locs)), AV.sl 4 (List.map c_api_Thread (o2_Threads)), AV.sl 3 (List.map c_api_Claim (o2_Claims))], Ob.row 53 3 (List.map encOp (m_out ++ ([(y72).1] : List OpS)))]))
      · simp only [hc74, ls]
        conv => lhs; whnf
        refine chk_some2 hm ?_; clear hm; intro hc80 hm
        refine bif_pos (app_row hc80 (by first | rfl | simp only [List.length_map]) (by first | rfl | simp only [List.length_map]) (by first | rfl | simp only [List.length_map, take_map_len]) (by kernel_rfl)) ?_
        try simp only [lt]
        have hp78 : (List.map encOp (m_out) : List (List AV)) ++ [[AV.int .i64 ((y72).1.op), AV.int .i64 ((y72).1.n), AV.int .i64 ((y72).1.t)]] = List.map encOp (m_out ++ ([(y72).1] : List OpS)) := by first | rfl | (rw [List.map_append]; rfl) | (rw [List.map_append]; done) | (simp only [List.map_append, List.map_cons, List.map_nil, List.nil_append, encOp] <;> rfl)
        have hl79 : List.length (List.map encOp (m_out) : List (List AV)) + List.length ([[AV.int .i64 ((y72).1.op), AV.int .i64 ((y72).1.n), AV.int .i64 ((y72).1.t)]] : List (List AV)) = List.length (m_out ++ ([(y72).1] : List OpS)) := by simp only [List.length_map, List.length_append] <;> rfl
        have hl79_b : List.length m_out + List.length ([[AV.int .i64 ((y72).1.op), AV.int .i64 ((y72).1.n), AV.int .i64 ((y72).1.t)]] : List (List AV)) = List.length (m_out ++ ([(y72).1] : List OpS)) := by simp only [List.length_map, List.length_append] <;> rfl
        have hl79_c : List.length m_out + List.length ([(y72).1] : List OpS) = List.length (m_out ++ ([(y72).1] : List OpS)) := by simp only [List.length_map, List.length_append] <;> rfl
        first | simp only [hp78, hl79] | (simp only [List.length_map, take_map_len]; simp only [hp78, hl79_b, hl79_c])
        try simp only [ls]
        conv => lhs; whnf
        have hq := Option.some.inj hm; clear hm; subst hq
        try simp only [ls]
        exact fq (y := some (AV.int .i64 (IntKind.i64.wrap (v1_i + 1)), [Ob.var 87 [AV.sl 5 (List.map c_api_Node (m_l)), AV.func 33 [] [AV.ptr 1 0, AV.ptr 2 0], AV.row 3 (List.length ((m_out ++ ([(y72).1] : List OpS)))), AV.bool (false)], Ob.var 23 [AV.sl 1 (List.map encS (o1))], Ob.var 28 [AV.int .i64 (o2_Mod), AV.sl 3 (List.map c_api_Var (o2_Locs)), AV.sl 4 (List.map c_api_Thread (o2_Threads)), AV.sl 3 (List.map c_api_Claim (o2_Claims))], Ob.row 53 3 (List.map encOp (m_out ++ ([(y72).1] : List OpS)))]))
  | c2 y6 =>
    dsimp only at hm
    have hk3 : call false 37 [AV.int .i64 (x1.f_Op)] [] = some (AV.tup [AV.agg [AV.int .i64 ((y6).1), AV.func 58 [] []], AV.bool ((y6).2)], []) := (hc _ _ _).trans (ok_code_of n x1.f_Op (.c2 y6) hy2)
    try simp only [List.drop_zero, ls]
    first | simp only [hk3] | rewrite [hk3]
    try simp only [ls]
    conv => lhs; whnf
    refine bif_or2 hm ?_ ?_ <;> clear hm <;> intro hc81 hm
    · simp only [hc81, ls]
      conv => lhs; whnf
      refine bind_some2 hm ?_; clear hm; intro o93 ho93 hm
      refine rounds_sim (σ := (Int × Int × Bool × (List OpS))) (τ := (Int × Bool × (List OpS))) (ν := (Int × (List OpS) × Bool)) 0 (fun (s82, s83, s84, s85) a87 => stOf 80 [(0, AV.ptr 0 0), (5, AV.ptr 4 0), (10, AV.int .i64 (s82)), (60, AV.int .i64 ((y6).1)), (61, AV.int .i64 (s83))]) (fun (s82, s83, s84, s85) a87 => [Ob.var 87 [AV.sl 5 (List.map c_api_Node (m_l)), AV.func 33 [] [AV.ptr 1 0, AV.ptr 2 0], AV.row 3 (List.length (s85)), AV.bool (s84)], Ob.var 23 [AV.sl 1 (List.map encS (o1))], Ob.var 28 [AV.int .i64 (o2_Mod), AV.sl 3 (List.map c_api_Var (o2_Locs)), AV.sl 4 (List.map c_api_Thread (o2_Threads)), AV.sl 3 (List.map c_api_Claim (o2_Claims))], Ob.row 53 3 (List.map encOp (s85)), Ob.var 57 [AV.int .i64 (x1.f_Op), AV.int .i64 (x1.f_N), AV.str (x1.f_Name), AV.str (x1.f_In), AV.int .i64 (x1.f_At)], Ob.var 74 [AV.int .i64 ((y6).1), AV.func 58 [] []]]) (fun (x98, x99, x100) a97 => stOf 80 [(0, AV.ptr 0 0), (5, AV.ptr 4 0), (10, AV.int .i64 (x98))]) (fun (x98, x99, x100) a97 => [Ob.var 87 [AV.sl 5 (List.map c_api_Node (m_l)), AV.func 33 [] [AV.ptr 1 0, AV.ptr 2 0], AV.row 3 (List.length (x100)), AV.bool (x99)], Ob.var 23 [AV.sl 1 (List.map encS (o1))], Ob.var 28 [AV.int .i64 (o2_Mod), AV.sl 3 (List.map c_api_Var (o2_Locs)), AV.sl 4 (List.map c_api_Thread (o2_Threads)), AV.sl 3 (List.map c_api_Claim (o2_Claims))], Ob.row 53 3 (List.map encOp (x100)), Ob.var 57 [AV.int .i64 (x1.f_Op), AV.int .i64 (x1.f_N), AV.str (x1.f_Name), AV.str (x1.f_In), AV.int .i64 (x1.f_At)], Ob.var 74 [AV.int .i64 ((y6).1), AV.func 58 [] []]]) (fun v => (AV.int .i64 ((v).1), [Ob.var 87 [AV.sl 5 (List.map c_api_Node (m_l)), AV.func 33 [] [AV.ptr 1 0, AV.ptr 2 0], AV.row 3 (List.length ((v).2.1)), AV.bool ((v).2.2)], Ob.var 23 [AV.sl 1 (List.map encS (o1))], Ob.var 28 [AV.int .i64 (o2_Mod), AV.sl 3 (List.map c_api_Var (o2_Locs)), AV.sl 4 (List.map c_api_Thread (o2_Threads)), AV.sl 3 (List.map c_api_Claim (o2_Claims))], Ob.row 53 3 (List.map encOp ((v).2.1))])) (fun k s => code_maker_node_1_L2 n (m_code_maker_node_1 n) m_l o1 o2_Mod o2_Locs o2_Threads o2_Claims y6 k ((s).1) ((s).2.1) ((s).2.2.1) ((s).2.2.2)) (fun s => rfl) o93 ?_ n (IntKind.i64.wrap (v1_i + 1), 0, m_ok, m_out) (fun _ => 0) _ _ ho93 ?_ (by first | rfl | (simp only [ls, List.map_append, List.map_cons, List.map_nil, List.append_nil, List.length_set, length_copyL] <;> rfl)) (by first | rfl | (simp only [ls, List.map_append, List.map_cons, List.map_nil, List.append_nil, List.length_set, length_copyL] <;> rfl))
      · intro k86 ss a87 K88 cont89 hK90 hcont91 hm hr92
        obtain ⟨s82, s83, s84, s85⟩ := ss
        replace hm : code_maker_node_1_L2 n (m_code_maker_node_1 n) m_l o1 o2_Mod o2_Locs o2_Threads o2_Claims y6 (k86 + 1) s82 s83 s84 s85 = some o93 := hm
        rw [code_maker_node_1_L2] at hm
        conv => lhs; whnf
        refine bif_or2 hm ?_ ?_ <;> clear hm <;> intro hc94 hm
        · simp only [hc94, ls]
          conv => lhs; whnf
          refine bind_some2 hm ?_; clear hm; intro y95 hy95 hm
          have hk96 : call false 45 [AV.ptr 0 0, AV.int .i64 (s82)] [Ob.var 87 [AV.sl 5 (List.map c_api_Node (m_l)), AV.func 33 [] [AV.ptr 1 0, AV.ptr 2 0], AV.row 3 (List.length (s85)), AV.bool (s84)], Ob.var 23 [AV.sl 1 (List.map encS (o1))], Ob.var 28 [AV.int .i64 (o2_Mod), AV.sl 3 (List.map c_api_Var (o2_Locs)), AV.sl 4 (List.map c_api_Thread (o2_Threads)), AV.sl 3 (List.map c_api_Claim (o2_Claims))], Ob.row 53 3 (List.map encOp (s85))] = some (AV.int .i64 ((y95).1), [Ob.var 87 [AV.sl 5 (List.map c_api_Node (m_l)), AV.func 33 [] [AV.ptr 1 0, AV.ptr 2 0], AV.row 3 (List.length ((y95).2.1)), AV.bool ((y95).2.2)], Ob.var 23 [AV.sl 1 (List.map encS (o1))], Ob.var 28 [AV.int .i64 (o2_Mod), AV.sl 3 (List.map c_api_Var (o2_Locs)), AV.sl 4 (List.map c_api_Thread (o2_Threads)), AV.sl 3 (List.map c_api_Claim (o2_Claims))], Ob.row 53 3 (List.map encOp ((y95).2.1))]) := (hc _ _ _).trans (ih_code_maker_node_1 s82 m_l s85 s84 o1 o2_Mod o2_Locs o2_Threads o2_Claims y95 hy95)
          try simp only [List.drop_zero, ls]
          first | simp only [hk96] | rewrite [hk96]
          try simp only [ls]
          conv => lhs; whnf
          exact cq (hcont91 ((y95).1, IntKind.i64.wrap (s83 + 1), (y95).2.2, (y95).2.1) (fun _ => 0) hm)
        · simp only [hc94, ls]
          conv => lhs; whnf
          have hq := Option.some.inj hm; clear hm; subst hq
          exact kq (hr92 (fun _ => 0))
      · cases o93 with
        | ret v =>
          have hq := Option.some.inj hm; clear hm; subst hq
          rfl
        | out t =>
          obtain ⟨x98, x99, x100⟩ := t
          intro a97
          dsimp only at hm
          conv => lhs; whnf
          refine chk_some2 hm ?_; clear hm; intro hc103 hm
          refine bif_pos (app_row hc103 (by first | rfl | simp only [List.length_map]) (by first | rfl | simp only [List.length_map]) (by first | rfl | simp only [List.length_map, take_map_len]) (by kernel_rfl)) ?_
          try simp only [lt]
          have hp101 : (List.map encOp (x100) : List (List AV)) ++ [[AV.int .i64 (x1.f_Op), AV.int .i64 (0), AV.int .i64 (0)]] = List.map encOp (x100 ++ ([(⟨x1.f_Op, 0, 0⟩ : OpS)] : List OpS)) := by first | rfl | (rw [List.map_append]; rfl) | (rw [List.map_append]; done) | (simp only [List.map_append, List.map_cons, List.map_nil, List.nil_append, encOp] <;> rfl)
          have hl102 : List.length (List.map encOp (x100) : List (List AV)) + List.length ([[AV.int .i64 (x1.f_Op), AV.int .i64 (0), AV.int .i64 (0)]] : List (List AV)) = List.length (x100 ++ ([(⟨x1.f_Op, 0, 0⟩ : OpS)] : List OpS)) := by simp only [List.length_map, List.length_append] <;> rfl
          have hl102_b : List.length x100 + List.length ([[AV.int .i64 (x1.f_Op), AV.int .i64 (0), AV.int .i64 (0)]] : List (List AV)) = List.length (x100 ++ ([(⟨x1.f_Op, 0, 0⟩ : OpS)] : List OpS)) := by simp only [List.length_map, List.length_append] <;> rfl
          have hl102_c : List.length x100 + List.length ([(⟨x1.f_Op, 0, 0⟩ : OpS)] : List OpS) = List.length (x100 ++ ([(⟨x1.f_Op, 0, 0⟩ : OpS)] : List OpS)) := by simp only [List.length_map, List.length_append] <;> rfl
          first | simp only [hp101, hl102] | (simp only [List.length_map, take_map_len]; simp only [hp101, hl102_b, hl102_c])
          try simp only [ls]
          conv => lhs; whnf
          have hq := Option.some.inj hm; clear hm; subst hq
          try simp only [ls]
          exact fq (y := some (AV.int .i64 (x98), [Ob.var 87 [AV.sl 5 (List.map c_api_Node (m_l)), AV.func 33 [] [AV.ptr 1 0, AV.ptr 2 0], AV.row 3 (List.length ((x100 ++ ([(⟨x1.f_Op, 0, 0⟩ : OpS)] : List OpS)))), AV.bool (x99)], Ob.var 23 [AV.sl 1 (List.map encS (o1))], Ob.var 28 [AV.int .i64 (o2_Mod), AV.sl 3 (List.map c_api_Var (o2_Locs)), AV.sl 4 (List.map c_api_Thread (o2_Threads)), AV.sl 3 (List.map c_api_Claim (o2_Claims))], Ob.row 53 3 (List.map encOp (x100 ++ ([(⟨x1.f_Op, 0, 0⟩ : OpS)] : List OpS)))]))
    · simp only [hc81, ls]
      conv => lhs; whnf
      refine bind_some2 hm ?_; clear hm; intro y105 hy105 hm
      have hk106 : call false 33 [AV.agg [AV.int .i64 (x1.f_Op), AV.int .i64 (x1.f_N), AV.str (x1.f_Name), AV.str (x1.f_In), AV.int .i64 (x1.f_At)], AV.ptr 0 0, AV.ptr 1 0] [Ob.var 23 [AV.sl 1 (List.map encS (o1))], Ob.var 28 [AV.int .i64 (o2_Mod), AV.sl 3 (List.map c_api_Var (o2_Locs)), AV.sl 4 (List.map c_api_Thread (o2_Threads)), AV.sl 3 (List.map c_api_Claim (o2_Claims))]] = some (AV.tup [AV.agg [AV.int .i64 ((y105).1.op), AV.int .i64 ((y105).1.n), AV.int .i64 ((y105).1.t)], AV.bool ((y105).2)], [Ob.var 23 [AV.sl 1 (List.map encS (o1))], Ob.var 28 [AV.int .i64 (o2_Mod), AV.sl 3 (List.map c_api_Var (o2_Locs)), AV.sl 4 (List.map c_api_Thread (o2_Threads)), AV.sl 3 (List.map c_api_Claim (o2_Claims))]]) := (hc _ _ _).trans (ok_code_Claim_1 n x1 o1 o2_Mod o2_Locs o2_Threads o2_Claims y105 hy105)
      try simp only [List.drop_zero, ls]
      first | simp only [hk106] | rewrite [hk106]
      try simp only [ls]
      conv => lhs; whnf
      refine bif_or2 hm ?_ ?_ <;> clear hm <;> intro hc107 hm
      · simp only [hc107, ls]
        conv => lhs; whnf
        refine chk_some2 hm ?_; clear hm; intro hc110 hm
        refine bif_pos (app_row hc110 (by first | rfl | simp only [List.length_map]) (by first | rfl | simp only [List.length_map]) (by first | rfl | simp only [List.length_map, take_map_len]) (by kernel_rfl)) ?_
        try simp only [lt]
        have hp108 : (List.map encOp (m_out) : List (List AV)) ++ [[AV.int .i64 ((y105).1.op), AV.int .i64 ((y105).1.n), AV.int .i64 ((y105).1.t)]] = List.map encOp (m_out ++ ([(y105).1] : List OpS)) := by first | rfl | (rw [List.map_append]; rfl) | (rw [List.map_append]; done) | (simp only [List.map_append, List.map_cons, List.map_nil, List.nil_append, encOp] <;> rfl)
        have hl109 : List.length (List.map encOp (m_out) : List (List AV)) + List.length ([[AV.int .i64 ((y105).1.op), AV.int .i64 ((y105).1.n), AV.int .i64 ((y105).1.t)]] : List (List AV)) = List.length (m_out ++ ([(y105).1] : List OpS)) := by simp only [List.length_map, List.length_append] <;> rfl
        have hl109_b : List.length m_out + List.length ([[AV.int .i64 ((y105).1.op), AV.int .i64 ((y105).1.n), AV.int .i64 ((y105).1.t)]] : List (List AV)) = List.length (m_out ++ ([(y105).1] : List OpS)) := by simp only [List.length_map, List.length_append] <;> rfl
        have hl109_c : List.length m_out + List.length ([(y105).1] : List OpS) = List.length (m_out ++ ([(y105).1] : List OpS)) := by simp only [List.length_map, List.length_append] <;> rfl
        first | simp only [hp108, hl109] | (simp only [List.length_map, take_map_len]; simp only [hp108, hl109_b, hl109_c])
        try simp only [ls]
        conv => lhs; whnf
        have hq := Option.some.inj hm; clear hm; subst hq
        try simp only [ls]
        exact fq (y := some (AV.int .i64 (IntKind.i64.wrap (v1_i + 1)), [Ob.var 87 [AV.sl 5 (List.map c_api_Node (m_l)), AV.func 33 [] [AV.ptr 1 0, AV.ptr 2 0], AV.row 3 (List.length ((m_out ++ ([(y105).1] : List OpS)))), AV.bool ((y105).2)], Ob.var 23 [AV.sl 1 (List.map encS (o1))], Ob.var 28 [AV.int .i64 (o2_Mod), AV.sl 3 (List.map c_api_Var (o2_Locs)), AV.sl 4 (List.map c_api_Thread (o2_Threads)), AV.sl 3 (List.map c_api_Claim (o2_Claims))], Ob.row 53 3 (List.map encOp (m_out ++ ([(y105).1] : List OpS)))]))
      · simp only [hc107, ls]
        conv => lhs; whnf
        refine chk_some2 hm ?_; clear hm; intro hc113 hm
        refine bif_pos (app_row hc113 (by first | rfl | simp only [List.length_map]) (by first | rfl | simp only [List.length_map]) (by first | rfl | simp only [List.length_map, take_map_len]) (by kernel_rfl)) ?_
        try simp only [lt]
        have hp111 : (List.map encOp (m_out) : List (List AV)) ++ [[AV.int .i64 ((y105).1.op), AV.int .i64 ((y105).1.n), AV.int .i64 ((y105).1.t)]] = List.map encOp (m_out ++ ([(y105).1] : List OpS)) := by first | rfl | (rw [List.map_append]; rfl) | (rw [List.map_append]; done) | (simp only [List.map_append, List.map_cons, List.map_nil, List.nil_append, encOp] <;> rfl)
        have hl112 : List.length (List.map encOp (m_out) : List (List AV)) + List.length ([[AV.int .i64 ((y105).1.op), AV.int .i64 ((y105).1.n), AV.int .i64 ((y105).1.t)]] : List (List AV)) = List.length (m_out ++ ([(y105).1] : List OpS)) := by simp only [List.length_map, List.length_append] <;> rfl
        have hl112_b : List.length m_out + List.length ([[AV.int .i64 ((y105).1.op), AV.int .i64 ((y105).1.n), AV.int .i64 ((y105).1.t)]] : List (List AV)) = List.length (m_out ++ ([(y105).1] : List OpS)) := by simp only [List.length_map, List.length_append] <;> rfl
        have hl112_c : List.length m_out + List.length ([(y105).1] : List OpS) = List.length (m_out ++ ([(y105).1] : List OpS)) := by simp only [List.length_map, List.length_append] <;> rfl
        first | simp only [hp111, hl112] | (simp only [List.length_map, take_map_len]; simp only [hp111, hl112_b, hl112_c])
        try simp only [ls]
        conv => lhs; whnf
        have hq := Option.some.inj hm; clear hm; subst hq
        try simp only [ls]
        exact fq (y := some (AV.int .i64 (IntKind.i64.wrap (v1_i + 1)), [Ob.var 87 [AV.sl 5 (List.map c_api_Node (m_l)), AV.func 33 [] [AV.ptr 1 0, AV.ptr 2 0], AV.row 3 (List.length ((m_out ++ ([(y105).1] : List OpS)))), AV.bool (false)], Ob.var 23 [AV.sl 1 (List.map encS (o1))], Ob.var 28 [AV.int .i64 (o2_Mod), AV.sl 3 (List.map c_api_Var (o2_Locs)), AV.sl 4 (List.map c_api_Thread (o2_Threads)), AV.sl 3 (List.map c_api_Claim (o2_Claims))], Ob.row 53 3 (List.map encOp (m_out ++ ([(y105).1] : List OpS)))]))
  | c3 y7 =>
    dsimp only at hm
    have hk3 : call false 37 [AV.int .i64 (x1.f_Op)] [] = some (AV.tup [AV.agg [AV.int .i64 ((y7).1), AV.func 57 [] []], AV.bool ((y7).2)], []) := (hc _ _ _).trans (ok_code_of n x1.f_Op (.c3 y7) hy2)
    try simp only [List.drop_zero, ls]
    first | simp only [hk3] | rewrite [hk3]
    try simp only [ls]
    conv => lhs; whnf
    refine bif_or2 hm ?_ ?_ <;> clear hm <;> intro hc114 hm
    · simp only [hc114, ls]
      conv => lhs; whnf
      refine bind_some2 hm ?_; clear hm; intro o126 ho126 hm
      refine rounds_sim (σ := (Int × Int × Bool × (List OpS))) (τ := (Int × Bool × (List OpS))) (ν := (Int × (List OpS) × Bool)) 0 (fun (s115, s116, s117, s118) a120 => stOf 80 [(0, AV.ptr 0 0), (5, AV.ptr 4 0), (10, AV.int .i64 (s115)), (60, AV.int .i64 ((y7).1)), (61, AV.int .i64 (s116))]) (fun (s115, s116, s117, s118) a120 => [Ob.var 87 [AV.sl 5 (List.map c_api_Node (m_l)), AV.func 33 [] [AV.ptr 1 0, AV.ptr 2 0], AV.row 3 (List.length (s118)), AV.bool (s117)], Ob.var 23 [AV.sl 1 (List.map encS (o1))], Ob.var 28 [AV.int .i64 (o2_Mod), AV.sl 3 (List.map c_api_Var (o2_Locs)), AV.sl 4 (List.map c_api_Thread (o2_Threads)), AV.sl 3 (List.map c_api_Claim (o2_Claims))], Ob.row 53 3 (List.map encOp (s118)), Ob.var 57 [AV.int .i64 (x1.f_Op), AV.int .i64 (x1.f_N), AV.str (x1.f_Name), AV.str (x1.f_In), AV.int .i64 (x1.f_At)], Ob.var 74 [AV.int .i64 ((y7).1), AV.func 57 [] []]]) (fun (x131, x132, x133) a130 => stOf 80 [(0, AV.ptr 0 0), (5, AV.ptr 4 0), (10, AV.int .i64 (x131))]) (fun (x131, x132, x133) a130 => [Ob.var 87 [AV.sl 5 (List.map c_api_Node (m_l)), AV.func 33 [] [AV.ptr 1 0, AV.ptr 2 0], AV.row 3 (List.length (x133)), AV.bool (x132)], Ob.var 23 [AV.sl 1 (List.map encS (o1))], Ob.var 28 [AV.int .i64 (o2_Mod), AV.sl 3 (List.map c_api_Var (o2_Locs)), AV.sl 4 (List.map c_api_Thread (o2_Threads)), AV.sl 3 (List.map c_api_Claim (o2_Claims))], Ob.row 53 3 (List.map encOp (x133)), Ob.var 57 [AV.int .i64 (x1.f_Op), AV.int .i64 (x1.f_N), AV.str (x1.f_Name), AV.str (x1.f_In), AV.int .i64 (x1.f_At)], Ob.var 74 [AV.int .i64 ((y7).1), AV.func 57 [] []]]) (fun v => (AV.int .i64 ((v).1), [Ob.var 87 [AV.sl 5 (List.map c_api_Node (m_l)), AV.func 33 [] [AV.ptr 1 0, AV.ptr 2 0], AV.row 3 (List.length ((v).2.1)), AV.bool ((v).2.2)], Ob.var 23 [AV.sl 1 (List.map encS (o1))], Ob.var 28 [AV.int .i64 (o2_Mod), AV.sl 3 (List.map c_api_Var (o2_Locs)), AV.sl 4 (List.map c_api_Thread (o2_Threads)), AV.sl 3 (List.map c_api_Claim (o2_Claims))], Ob.row 53 3 (List.map encOp ((v).2.1))])) (fun k s => code_maker_node_1_L3 n (m_code_maker_node_1 n) m_l o1 o2_Mod o2_Locs o2_Threads o2_Claims y7 k ((s).1) ((s).2.1) ((s).2.2.1) ((s).2.2.2)) (fun s => rfl) o126 ?_ n (IntKind.i64.wrap (v1_i + 1), 0, m_ok, m_out) (fun _ => 0) _ _ ho126 ?_ (by first | rfl | (simp only [ls, List.map_append, List.map_cons, List.map_nil, List.append_nil, List.length_set, length_copyL] <;> rfl)) (by first | rfl | (simp only [ls, List.map_append, List.map_cons, List.map_nil, List.append_nil, List.length_set, length_copyL] <;> rfl))
      · intro k119 ss a120 K121 cont122 hK123 hcont124 hm hr125
        obtain ⟨s115, s116, s117, s118⟩ := ss
        replace hm : code_maker_node_1_L3 n (m_code_maker_node_1 n) m_l o1 o2_Mod o2_Locs o2_Threads o2_Claims y7 (k119 + 1) s115 s116 s117 s118 = some o126 := hm
        rw [code_maker_node_1_L3] at hm
        conv => lhs; whnf
        refine bif_or2 hm ?_ ?_ <;> clear hm <;> intro hc127 hm
        · simp only [hc127, ls]
          conv => lhs; whnf
          refine bind_some2 hm ?_; clear hm; intro y128 hy128 hm
          have hk129 : call false 45 [AV.ptr 0 0, AV.int .i64 (s115)] [Ob.var 87 [AV.sl 5 (List.map c_api_Node (m_l)), AV.func 33 [] [AV.ptr 1 0, AV.ptr 2 0], AV.row 3 (List.length (s118)), AV.bool (s117)], Ob.var 23 [AV.sl 1 (List.map encS (o1))], Ob.var 28 [AV.int .i64 (o2_Mod), AV.sl 3 (List.map c_api_Var (o2_Locs)), AV.sl 4 (List.map c_api_Thread (o2_Threads)), AV.sl 3 (List.map c_api_Claim (o2_Claims))], Ob.row 53 3 (List.map encOp (s118))] = some (AV.int .i64 ((y128).1), [Ob.var 87 [AV.sl 5 (List.map c_api_Node (m_l)), AV.func 33 [] [AV.ptr 1 0, AV.ptr 2 0], AV.row 3 (List.length ((y128).2.1)), AV.bool ((y128).2.2)], Ob.var 23 [AV.sl 1 (List.map encS (o1))], Ob.var 28 [AV.int .i64 (o2_Mod), AV.sl 3 (List.map c_api_Var (o2_Locs)), AV.sl 4 (List.map c_api_Thread (o2_Threads)), AV.sl 3 (List.map c_api_Claim (o2_Claims))], Ob.row 53 3 (List.map encOp ((y128).2.1))]) := (hc _ _ _).trans (ih_code_maker_node_1 s115 m_l s118 s117 o1 o2_Mod o2_Locs o2_Threads o2_Claims y128 hy128)
          try simp only [List.drop_zero, ls]
          first | simp only [hk129] | rewrite [hk129]
          try simp only [ls]
          conv => lhs; whnf
          exact cq (hcont124 ((y128).1, IntKind.i64.wrap (s116 + 1), (y128).2.2, (y128).2.1) (fun _ => 0) hm)
        · simp only [hc127, ls]
          conv => lhs; whnf
          have hq := Option.some.inj hm; clear hm; subst hq
          exact kq (hr125 (fun _ => 0))
      · cases o126 with
        | ret v =>
          have hq := Option.some.inj hm; clear hm; subst hq
          rfl
        | out t =>
          obtain ⟨x131, x132, x133⟩ := t
          intro a130
          dsimp only at hm
          conv => lhs; whnf
          refine chk_some2 hm ?_; clear hm; intro hc136 hm
          refine bif_pos (app_row hc136 (by first | rfl | simp only [List.length_map]) (by first | rfl | simp only [List.length_map]) (by first | rfl | simp only [List.length_map, take_map_len]) (by kernel_rfl)) ?_
          try simp only [lt]
          have hp134 : (List.map encOp (x133) : List (List AV)) ++ [[AV.int .i64 (x1.f_Op), AV.int .i64 (0), AV.int .i64 (0)]] = List.map encOp (x133 ++ ([(⟨x1.f_Op, 0, 0⟩ : OpS)] : List OpS)) := by first | rfl | (rw [List.map_append]; rfl) | (rw [List.map_append]; done) | (simp only [List.map_append, List.map_cons, List.map_nil, List.nil_append, encOp] <;> rfl)
          have hl135 : List.length (List.map encOp (x133) : List (List AV)) + List.length ([[AV.int .i64 (x1.f_Op), AV.int .i64 (0), AV.int .i64 (0)]] : List (List AV)) = List.length (x133 ++ ([(⟨x1.f_Op, 0, 0⟩ : OpS)] : List OpS)) := by simp only [List.length_map, List.length_append] <;> rfl
          have hl135_b : List.length x133 + List.length ([[AV.int .i64 (x1.f_Op), AV.int .i64 (0), AV.int .i64 (0)]] : List (List AV)) = List.length (x133 ++ ([(⟨x1.f_Op, 0, 0⟩ : OpS)] : List OpS)) := by simp only [List.length_map, List.length_append] <;> rfl
          have hl135_c : List.length x133 + List.length ([(⟨x1.f_Op, 0, 0⟩ : OpS)] : List OpS) = List.length (x133 ++ ([(⟨x1.f_Op, 0, 0⟩ : OpS)] : List OpS)) := by simp only [List.length_map, List.length_append] <;> rfl
          first | simp only [hp134, hl135] | (simp only [List.length_map, take_map_len]; simp only [hp134, hl135_b, hl135_c])
          try simp only [ls]
          conv => lhs; whnf
          have hq := Option.some.inj hm; clear hm; subst hq
          try simp only [ls]
          exact fq (y := some (AV.int .i64 (x131), [Ob.var 87 [AV.sl 5 (List.map c_api_Node (m_l)), AV.func 33 [] [AV.ptr 1 0, AV.ptr 2 0], AV.row 3 (List.length ((x133 ++ ([(⟨x1.f_Op, 0, 0⟩ : OpS)] : List OpS)))), AV.bool (x132)], Ob.var 23 [AV.sl 1 (List.map encS (o1))], Ob.var 28 [AV.int .i64 (o2_Mod), AV.sl 3 (List.map c_api_Var (o2_Locs)), AV.sl 4 (List.map c_api_Thread (o2_Threads)), AV.sl 3 (List.map c_api_Claim (o2_Claims))], Ob.row 53 3 (List.map encOp (x133 ++ ([(⟨x1.f_Op, 0, 0⟩ : OpS)] : List OpS)))]))
    · simp only [hc114, ls]
      conv => lhs; whnf
      refine bind_some2 hm ?_; clear hm; intro y138 hy138 hm
      have hk139 : call false 33 [AV.agg [AV.int .i64 (x1.f_Op), AV.int .i64 (x1.f_N), AV.str (x1.f_Name), AV.str (x1.f_In), AV.int .i64 (x1.f_At)], AV.ptr 0 0, AV.ptr 1 0] [Ob.var 23 [AV.sl 1 (List.map encS (o1))], Ob.var 28 [AV.int .i64 (o2_Mod), AV.sl 3 (List.map c_api_Var (o2_Locs)), AV.sl 4 (List.map c_api_Thread (o2_Threads)), AV.sl 3 (List.map c_api_Claim (o2_Claims))]] = some (AV.tup [AV.agg [AV.int .i64 ((y138).1.op), AV.int .i64 ((y138).1.n), AV.int .i64 ((y138).1.t)], AV.bool ((y138).2)], [Ob.var 23 [AV.sl 1 (List.map encS (o1))], Ob.var 28 [AV.int .i64 (o2_Mod), AV.sl 3 (List.map c_api_Var (o2_Locs)), AV.sl 4 (List.map c_api_Thread (o2_Threads)), AV.sl 3 (List.map c_api_Claim (o2_Claims))]]) := (hc _ _ _).trans (ok_code_Claim_1 n x1 o1 o2_Mod o2_Locs o2_Threads o2_Claims y138 hy138)
      try simp only [List.drop_zero, ls]
      first | simp only [hk139] | rewrite [hk139]
      try simp only [ls]
      conv => lhs; whnf
      refine bif_or2 hm ?_ ?_ <;> clear hm <;> intro hc140 hm
      · simp only [hc140, ls]
        conv => lhs; whnf
        refine chk_some2 hm ?_; clear hm; intro hc143 hm
        refine bif_pos (app_row hc143 (by first | rfl | simp only [List.length_map]) (by first | rfl | simp only [List.length_map]) (by first | rfl | simp only [List.length_map, take_map_len]) (by kernel_rfl)) ?_
        try simp only [lt]
        have hp141 : (List.map encOp (m_out) : List (List AV)) ++ [[AV.int .i64 ((y138).1.op), AV.int .i64 ((y138).1.n), AV.int .i64 ((y138).1.t)]] = List.map encOp (m_out ++ ([(y138).1] : List OpS)) := by first | rfl | (rw [List.map_append]; rfl) | (rw [List.map_append]; done) | (simp only [List.map_append, List.map_cons, List.map_nil, List.nil_append, encOp] <;> rfl)
        have hl142 : List.length (List.map encOp (m_out) : List (List AV)) + List.length ([[AV.int .i64 ((y138).1.op), AV.int .i64 ((y138).1.n), AV.int .i64 ((y138).1.t)]] : List (List AV)) = List.length (m_out ++ ([(y138).1] : List OpS)) := by simp only [List.length_map, List.length_append] <;> rfl
        have hl142_b : List.length m_out + List.length ([[AV.int .i64 ((y138).1.op), AV.int .i64 ((y138).1.n), AV.int .i64 ((y138).1.t)]] : List (List AV)) = List.length (m_out ++ ([(y138).1] : List OpS)) := by simp only [List.length_map, List.length_append] <;> rfl
        have hl142_c : List.length m_out + List.length ([(y138).1] : List OpS) = List.length (m_out ++ ([(y138).1] : List OpS)) := by simp only [List.length_map, List.length_append] <;> rfl
        first | simp only [hp141, hl142] | (simp only [List.length_map, take_map_len]; simp only [hp141, hl142_b, hl142_c])
        try simp only [ls]
        conv => lhs; whnf
        have hq := Option.some.inj hm; clear hm; subst hq
        try simp only [ls]
        exact fq (y := some (AV.int .i64 (IntKind.i64.wrap (v1_i + 1)), [Ob.var 87 [AV.sl 5 (List.map c_api_Node (m_l)), AV.func 33 [] [AV.ptr 1 0, AV.ptr 2 0], AV.row 3 (List.length ((m_out ++ ([(y138).1] : List OpS)))), AV.bool ((y138).2)], Ob.var 23 [AV.sl 1 (List.map encS (o1))], Ob.var 28 [AV.int .i64 (o2_Mod), AV.sl 3 (List.map c_api_Var (o2_Locs)), AV.sl 4 (List.map c_api_Thread (o2_Threads)), AV.sl 3 (List.map c_api_Claim (o2_Claims))], Ob.row 53 3 (List.map encOp (m_out ++ ([(y138).1] : List OpS)))]))
      · simp only [hc140, ls]
        conv => lhs; whnf
        refine chk_some2 hm ?_; clear hm; intro hc146 hm
        refine bif_pos (app_row hc146 (by first | rfl | simp only [List.length_map]) (by first | rfl | simp only [List.length_map]) (by first | rfl | simp only [List.length_map, take_map_len]) (by kernel_rfl)) ?_
        try simp only [lt]
        have hp144 : (List.map encOp (m_out) : List (List AV)) ++ [[AV.int .i64 ((y138).1.op), AV.int .i64 ((y138).1.n), AV.int .i64 ((y138).1.t)]] = List.map encOp (m_out ++ ([(y138).1] : List OpS)) := by first | rfl | (rw [List.map_append]; rfl) | (rw [List.map_append]; done) | (simp only [List.map_append, List.map_cons, List.map_nil, List.nil_append, encOp] <;> rfl)
        have hl145 : List.length (List.map encOp (m_out) : List (List AV)) + List.length ([[AV.int .i64 ((y138).1.op), AV.int .i64 ((y138).1.n), AV.int .i64 ((y138).1.t)]] : List (List AV)) = List.length (m_out ++ ([(y138).1] : List OpS)) := by simp only [List.length_map, List.length_append] <;> rfl
        have hl145_b : List.length m_out + List.length ([[AV.int .i64 ((y138).1.op), AV.int .i64 ((y138).1.n), AV.int .i64 ((y138).1.t)]] : List (List AV)) = List.length (m_out ++ ([(y138).1] : List OpS)) := by simp only [List.length_map, List.length_append] <;> rfl
        have hl145_c : List.length m_out + List.length ([(y138).1] : List OpS) = List.length (m_out ++ ([(y138).1] : List OpS)) := by simp only [List.length_map, List.length_append] <;> rfl
        first | simp only [hp144, hl145] | (simp only [List.length_map, take_map_len]; simp only [hp144, hl145_b, hl145_c])
        try simp only [ls]
        conv => lhs; whnf
        have hq := Option.some.inj hm; clear hm; subst hq
        try simp only [ls]
        exact fq (y := some (AV.int .i64 (IntKind.i64.wrap (v1_i + 1)), [Ob.var 87 [AV.sl 5 (List.map c_api_Node (m_l)), AV.func 33 [] [AV.ptr 1 0, AV.ptr 2 0], AV.row 3 (List.length ((m_out ++ ([(y138).1] : List OpS)))), AV.bool (false)], Ob.var 23 [AV.sl 1 (List.map encS (o1))], Ob.var 28 [AV.int .i64 (o2_Mod), AV.sl 3 (List.map c_api_Var (o2_Locs)), AV.sl 4 (List.map c_api_Thread (o2_Threads)), AV.sl 3 (List.map c_api_Claim (o2_Claims))], Ob.row 53 3 (List.map encOp (m_out ++ ([(y138).1] : List OpS)))]))
  | c4 y8 =>
    dsimp only at hm
    have hk3 : call false 37 [AV.int .i64 (x1.f_Op)] [] = some (AV.tup [AV.agg [AV.int .i64 ((y8).1), AV.func 56 [] []], AV.bool ((y8).2)], []) := (hc _ _ _).trans (ok_code_of n x1.f_Op (.c4 y8) hy2)
    try simp only [List.drop_zero, ls]
    first | simp only [hk3] | rewrite [hk3]
    try simp only [ls]
    conv => lhs; whnf
    refine bif_or2 hm ?_ ?_ <;> clear hm <;> intro hc147 hm
    · simp only [hc147, ls]
      conv => lhs; whnf
      refine bind_some2 hm ?_; clear hm; intro o159 ho159 hm
      refine rounds_sim (σ := (Int × Int × Bool × (List OpS))) (τ := (Int × Bool × (List OpS))) (ν := (Int × (List OpS) × Bool)) 0 (fun (s148, s149, s150, s151) a153 => stOf 80 [(0, AV.ptr 0 0), (5, AV.ptr 4 0), (10, AV.int .i64 (s148)), (60, AV.int .i64 ((y8).1)), (61, AV.int .i64 (s149))]) (fun (s148, s149, s150, s151) a153 => [Ob.var 87 [AV.sl 5 (List.map c_api_Node (m_l)), AV.func 33 [] [AV.ptr 1 0, AV.ptr 2 0], AV.row 3 (List.length (s151)), AV.bool (s150)], Ob.var 23 [AV.sl 1 (List.map encS (o1))], Ob.var 28 [AV.int .i64 (o2_Mod), AV.sl 3 (List.map c_api_Var (o2_Locs)), AV.sl 4 (List.map c_api_Thread (o2_Threads)), AV.sl 3 (List.map c_api_Claim (o2_Claims))], Ob.row 53 3 (List.map encOp (s151)), Ob.var 57 [AV.int .i64 (x1.f_Op), AV.int .i64 (x1.f_N), AV.str (x1.f_Name), AV.str (x1.f_In), AV.int .i64 (x1.f_At)], Ob.var 74 [AV.int .i64 ((y8).1), AV.func 56 [] []]]) (fun (x164, x165, x166) a163 => stOf 80 [(0, AV.ptr 0 0), (5, AV.ptr 4 0), (10, AV.int .i64 (x164))]) (fun (x164, x165, x166) a163 => [Ob.var 87 [AV.sl 5 (List.map c_api_Node (m_l)), AV.func 33 [] [AV.ptr 1 0, AV.ptr 2 0], AV.row 3 (List.length (x166)), AV.bool (x165)], Ob.var 23 [AV.sl 1 (List.map encS (o1))], Ob.var 28 [AV.int .i64 (o2_Mod), AV.sl 3 (List.map c_api_Var (o2_Locs)), AV.sl 4 (List.map c_api_Thread (o2_Threads)), AV.sl 3 (List.map c_api_Claim (o2_Claims))], Ob.row 53 3 (List.map encOp (x166)), Ob.var 57 [AV.int .i64 (x1.f_Op), AV.int .i64 (x1.f_N), AV.str (x1.f_Name), AV.str (x1.f_In), AV.int .i64 (x1.f_At)], Ob.var 74 [AV.int .i64 ((y8).1), AV.func 56 [] []]]) (fun v => (AV.int .i64 ((v).1), [Ob.var 87 [AV.sl 5 (List.map c_api_Node (m_l)), AV.func 33 [] [AV.ptr 1 0, AV.ptr 2 0], AV.row 3 (List.length ((v).2.1)), AV.bool ((v).2.2)], Ob.var 23 [AV.sl 1 (List.map encS (o1))], Ob.var 28 [AV.int .i64 (o2_Mod), AV.sl 3 (List.map c_api_Var (o2_Locs)), AV.sl 4 (List.map c_api_Thread (o2_Threads)), AV.sl 3 (List.map c_api_Claim (o2_Claims))], Ob.row 53 3 (List.map encOp ((v).2.1))])) (fun k s => code_maker_node_1_L4 n (m_code_maker_node_1 n) m_l o1 o2_Mod o2_Locs o2_Threads o2_Claims y8 k ((s).1) ((s).2.1) ((s).2.2.1) ((s).2.2.2)) (fun s => rfl) o159 ?_ n (IntKind.i64.wrap (v1_i + 1), 0, m_ok, m_out) (fun _ => 0) _ _ ho159 ?_ (by first | rfl | (simp only [ls, List.map_append, List.map_cons, List.map_nil, List.append_nil, List.length_set, length_copyL] <;> rfl)) (by first | rfl | (simp only [ls, List.map_append, List.map_cons, List.map_nil, List.append_nil, List.length_set, length_copyL] <;> rfl))
      · intro k152 ss a153 K154 cont155 hK156 hcont157 hm hr158
        obtain ⟨s148, s149, s150, s151⟩ := ss
        replace hm : code_maker_node_1_L4 n (m_code_maker_node_1 n) m_l o1 o2_Mod o2_Locs o2_Threads o2_Claims y8 (k152 + 1) s148 s149 s150 s151 = some o159 := hm
        rw [code_maker_node_1_L4] at hm
        conv => lhs; whnf
        refine bif_or2 hm ?_ ?_ <;> clear hm <;> intro hc160 hm
        · simp only [hc160, ls]
          conv => lhs; whnf
          refine bind_some2 hm ?_; clear hm; intro y161 hy161 hm
          have hk162 : call false 45 [AV.ptr 0 0, AV.int .i64 (s148)] [Ob.var 87 [AV.sl 5 (List.map c_api_Node (m_l)), AV.func 33 [] [AV.ptr 1 0, AV.ptr 2 0], AV.row 3 (List.length (s151)), AV.bool (s150)], Ob.var 23 [AV.sl 1 (List.map encS (o1))], Ob.var 28 [AV.int .i64 (o2_Mod), AV.sl 3 (List.map c_api_Var (o2_Locs)), AV.sl 4 (List.map c_api_Thread (o2_Threads)), AV.sl 3 (List.map c_api_Claim (o2_Claims))], Ob.row 53 3 (List.map encOp (s151))] = some (AV.int .i64 ((y161).1), [Ob.var 87 [AV.sl 5 (List.map c_api_Node (m_l)), AV.func 33 [] [AV.ptr 1 0, AV.ptr 2 0], AV.row 3 (List.length ((y161).2.1)), AV.bool ((y161).2.2)], Ob.var 23 [AV.sl 1 (List.map encS (o1))], Ob.var 28 [AV.int .i64 (o2_Mod), AV.sl 3 (List.map c_api_Var (o2_Locs)), AV.sl 4 (List.map c_api_Thread (o2_Threads)), AV.sl 3 (List.map c_api_Claim (o2_Claims))], Ob.row 53 3 (List.map encOp ((y161).2.1))]) := (hc _ _ _).trans (ih_code_maker_node_1 s148 m_l s151 s150 o1 o2_Mod o2_Locs o2_Threads o2_Claims y161 hy161)
          try simp only [List.drop_zero, ls]
          first | simp only [hk162] | rewrite [hk162]
          try simp only [ls]
          conv => lhs; whnf
          exact cq (hcont157 ((y161).1, IntKind.i64.wrap (s149 + 1), (y161).2.2, (y161).2.1) (fun _ => 0) hm)
        · simp only [hc160, ls]
          conv => lhs; whnf
          have hq := Option.some.inj hm; clear hm; subst hq
          exact kq (hr158 (fun _ => 0))
      · cases o159 with
        | ret v =>
          have hq := Option.some.inj hm; clear hm; subst hq
          rfl
        | out t =>
          obtain ⟨x164, x165, x166⟩ := t
          intro a163
          dsimp only at hm
          conv => lhs; whnf
          refine chk_some2 hm ?_; clear hm; intro hc169 hm
          refine bif_pos (app_row hc169 (by first | rfl | simp only [List.length_map]) (by first | rfl | simp only [List.length_map]) (by first | rfl | simp only [List.length_map, take_map_len]) (by kernel_rfl)) ?_
          try simp only [lt]
          have hp167 : (List.map encOp (x166) : List (List AV)) ++ [[AV.int .i64 (x1.f_Op), AV.int .i64 (0), AV.int .i64 (0)]] = List.map encOp (x166 ++ ([(⟨x1.f_Op, 0, 0⟩ : OpS)] : List OpS)) := by first | rfl | (rw [List.map_append]; rfl) | (rw [List.map_append]; done) | (simp only [List.map_append, List.map_cons, List.map_nil, List.nil_append, encOp] <;> rfl)
          have hl168 : List.length (List.map encOp (x166) : List (List AV)) + List.length ([[AV.int .i64 (x1.f_Op), AV.int .i64 (0), AV.int .i64 (0)]] : List (List AV)) = List.length (x166 ++ ([(⟨x1.f_Op, 0, 0⟩ : OpS)] : List OpS)) := by simp only [List.length_map, List.length_append] <;> rfl
          have hl168_b : List.length x166 + List.length ([[AV.int .i64 (x1.f_Op), AV.int .i64 (0), AV.int .i64 (0)]] : List (List AV)) = List.length (x166 ++ ([(⟨x1.f_Op, 0, 0⟩ : OpS)] : List OpS)) := by simp only [List.length_map, List.length_append] <;> rfl
          have hl168_c : List.length x166 + List.length ([(⟨x1.f_Op, 0, 0⟩ : OpS)] : List OpS) = List.length (x166 ++ ([(⟨x1.f_Op, 0, 0⟩ : OpS)] : List OpS)) := by simp only [List.length_map, List.length_append] <;> rfl
          first | simp only [hp167, hl168] | (simp only [List.length_map, take_map_len]; simp only [hp167, hl168_b, hl168_c])
          try simp only [ls]
          conv => lhs; whnf
          have hq := Option.some.inj hm; clear hm; subst hq
          try simp only [ls]
          exact fq (y := some (AV.int .i64 (x164), [Ob.var 87 [AV.sl 5 (List.map c_api_Node (m_l)), AV.func 33 [] [AV.ptr 1 0, AV.ptr 2 0], AV.row 3 (List.length ((x166 ++ ([(⟨x1.f_Op, 0, 0⟩ : OpS)] : List OpS)))), AV.bool (x165)], Ob.var 23 [AV.sl 1 (List.map encS (o1))], Ob.var 28 [AV.int .i64 (o2_Mod), AV.sl 3 (List.map c_api_Var (o2_Locs)), AV.sl 4 (List.map c_api_Thread (o2_Threads)), AV.sl 3 (List.map c_api_Claim (o2_Claims))], Ob.row 53 3 (List.map encOp (x166 ++ ([(⟨x1.f_Op, 0, 0⟩ : OpS)] : List OpS)))]))
    · simp only [hc147, ls]
      conv => lhs; whnf
      refine bind_some2 hm ?_; clear hm; intro y171 hy171 hm
      have hk172 : call false 33 [AV.agg [AV.int .i64 (x1.f_Op), AV.int .i64 (x1.f_N), AV.str (x1.f_Name), AV.str (x1.f_In), AV.int .i64 (x1.f_At)], AV.ptr 0 0, AV.ptr 1 0] [Ob.var 23 [AV.sl 1 (List.map encS (o1))], Ob.var 28 [AV.int .i64 (o2_Mod), AV.sl 3 (List.map c_api_Var (o2_Locs)), AV.sl 4 (List.map c_api_Thread (o2_Threads)), AV.sl 3 (List.map c_api_Claim (o2_Claims))]] = some (AV.tup [AV.agg [AV.int .i64 ((y171).1.op), AV.int .i64 ((y171).1.n), AV.int .i64 ((y171).1.t)], AV.bool ((y171).2)], [Ob.var 23 [AV.sl 1 (List.map encS (o1))], Ob.var 28 [AV.int .i64 (o2_Mod), AV.sl 3 (List.map c_api_Var (o2_Locs)), AV.sl 4 (List.map c_api_Thread (o2_Threads)), AV.sl 3 (List.map c_api_Claim (o2_Claims))]]) := (hc _ _ _).trans (ok_code_Claim_1 n x1 o1 o2_Mod o2_Locs o2_Threads o2_Claims y171 hy171)
      try simp only [List.drop_zero, ls]
      first | simp only [hk172] | rewrite [hk172]
      try simp only [ls]
      conv => lhs; whnf
      refine bif_or2 hm ?_ ?_ <;> clear hm <;> intro hc173 hm
      · simp only [hc173, ls]
        conv => lhs; whnf
        refine chk_some2 hm ?_; clear hm; intro hc176 hm
        refine bif_pos (app_row hc176 (by first | rfl | simp only [List.length_map]) (by first | rfl | simp only [List.length_map]) (by first | rfl | simp only [List.length_map, take_map_len]) (by kernel_rfl)) ?_
        try simp only [lt]
        have hp174 : (List.map encOp (m_out) : List (List AV)) ++ [[AV.int .i64 ((y171).1.op), AV.int .i64 ((y171).1.n), AV.int .i64 ((y171).1.t)]] = List.map encOp (m_out ++ ([(y171).1] : List OpS)) := by first | rfl | (rw [List.map_append]; rfl) | (rw [List.map_append]; done) | (simp only [List.map_append, List.map_cons, List.map_nil, List.nil_append, encOp] <;> rfl)
        have hl175 : List.length (List.map encOp (m_out) : List (List AV)) + List.length ([[AV.int .i64 ((y171).1.op), AV.int .i64 ((y171).1.n), AV.int .i64 ((y171).1.t)]] : List (List AV)) = List.length (m_out ++ ([(y171).1] : List OpS)) := by simp only [List.length_map, List.length_append] <;> rfl
        have hl175_b : List.length m_out + List.length ([[AV.int .i64 ((y171).1.op), AV.int .i64 ((y171).1.n), AV.int .i64 ((y171).1.t)]] : List (List AV)) = List.length (m_out ++ ([(y171).1] : List OpS)) := by simp only [List.length_map, List.length_append] <;> rfl
        have hl175_c : List.length m_out + List.length ([(y171).1] : List OpS) = List.length (m_out ++ ([(y171).1] : List OpS)) := by simp only [List.length_map, List.length_append] <;> rfl
        first | simp only [hp174, hl175] | (simp only [List.length_map, take_map_len]; simp only [hp174, hl175_b, hl175_c])
        try simp only [ls]
        conv => lhs; whnf
        have hq := Option.some.inj hm; clear hm; subst hq
        try simp only [ls]
        exact fq (y := some (AV.int .i64 (IntKind.i64.wrap (v1_i + 1)), [Ob.var 87 [AV.sl 5 (List.map c_api_Node (m_l)), AV.func 33 [] [AV.ptr 1 0, AV.ptr 2 0], AV.row 3 (List.length ((m_out ++ ([(y171).1] : List OpS)))), AV.bool ((y171).2)], Ob.var 23 [AV.sl 1 (List.map encS (o1))], Ob.var 28 [AV.int .i64 (o2_Mod), AV.sl 3 (List.map c_api_Var (o2_Locs)), AV.sl 4 (List.map c_api_Thread (o2_Threads)), AV.sl 3 (List.map c_api_Claim (o2_Claims))], Ob.row 53 3 (List.map encOp (m_out ++ ([(y171).1] : List OpS)))]))
      · simp only [hc173, ls]
        conv => lhs; whnf
        refine chk_some2 hm ?_; clear hm; intro hc179 hm
        refine bif_pos (app_row hc179 (by first | rfl | simp only [List.length_map]) (by first | rfl | simp only [List.length_map]) (by first | rfl | simp only [List.length_map, take_map_len]) (by kernel_rfl)) ?_
        try simp only [lt]
        have hp177 : (List.map encOp (m_out) : List (List AV)) ++ [[AV.int .i64 ((y171).1.op), AV.int .i64 ((y171).1.n), AV.int .i64 ((y171).1.t)]] = List.map encOp (m_out ++ ([(y171).1] : List OpS)) := by first | rfl | (rw [List.map_append]; rfl) | (rw [List.map_append]; done) | (simp only [List.map_append, List.map_cons, List.map_nil, List.nil_append, encOp] <;> rfl)
        have hl178 : List.length (List.map encOp (m_out) : List (List AV)) + List.length ([[AV.int .i64 ((y171).1.op), AV.int .i64 ((y171).1.n), AV.int .i64 ((y171).1.t)]] : List (List AV)) = List.length (m_out ++ ([(y171).1] : List OpS)) := by simp only [List.length_map, List.length_append] <;> rfl
        have hl178_b : List.length m_out + List.length ([[AV.int .i64 ((y171).1.op), AV.int .i64 ((y171).1.n), AV.int .i64 ((y171).1.t)]] : List (List AV)) = List.length (m_out ++ ([(y171).1] : List OpS)) := by simp only [List.length_map, List.length_append] <;> rfl
        have hl178_c : List.length m_out + List.length ([(y171).1] : List OpS) = List.length (m_out ++ ([(y171).1] : List OpS)) := by simp only [List.length_map, List.length_append] <;> rfl
        first | simp only [hp177, hl178] | (simp only [List.length_map, take_map_len]; simp only [hp177, hl178_b, hl178_c])
        try simp only [ls]
        conv => lhs; whnf
        have hq := Option.some.inj hm; clear hm; subst hq
        try simp only [ls]
        exact fq (y := some (AV.int .i64 (IntKind.i64.wrap (v1_i + 1)), [Ob.var 87 [AV.sl 5 (List.map c_api_Node (m_l)), AV.func 33 [] [AV.ptr 1 0, AV.ptr 2 0], AV.row 3 (List.length ((m_out ++ ([(y171).1] : List OpS)))), AV.bool (false)], Ob.var 23 [AV.sl 1 (List.map encS (o1))], Ob.var 28 [AV.int .i64 (o2_Mod), AV.sl 3 (List.map c_api_Var (o2_Locs)), AV.sl 4 (List.map c_api_Thread (o2_Threads)), AV.sl 3 (List.map c_api_Claim (o2_Claims))], Ob.row 53 3 (List.map encOp (m_out ++ ([(y171).1] : List OpS)))]))
  | c5 y9 =>
    dsimp only at hm
    have hk3 : call false 37 [AV.int .i64 (x1.f_Op)] [] = some (AV.tup [AV.agg [AV.int .i64 ((y9).1), AV.func 55 [] []], AV.bool ((y9).2)], []) := (hc _ _ _).trans (ok_code_of n x1.f_Op (.c5 y9) hy2)
    try simp only [List.drop_zero, ls]
    first | simp only [hk3] | rewrite [hk3]
    try simp only [ls]
    conv => lhs; whnf
    refine bif_or2 hm ?_ ?_ <;> clear hm <;> intro hc180 hm
    · simp only [hc180, ls]
      conv => lhs; whnf
      refine bind_some2 hm ?_; clear hm; intro o192 ho192 hm
      refine rounds_sim (σ := (Int × Int × Bool × (List OpS))) (τ := (Int × Bool × (List OpS))) (ν := (Int × (List OpS) × Bool)) 0 (fun (s181, s182, s183, s184) a186 => stOf 80 [(0, AV.ptr 0 0), (5, AV.ptr 4 0), (10, AV.int .i64 (s181)), (60, AV.int .i64 ((y9).1)), (61, AV.int .i64 (s182))]) (fun (s181, s182, s183, s184) a186 => [Ob.var 87 [AV.sl 5 (List.map c_api_Node (m_l)), AV.func 33 [] [AV.ptr 1 0, AV.ptr 2 0], AV.row 3 (List.length (s184)), AV.bool (s183)], Ob.var 23 [AV.sl 1 (List.map encS (o1))], Ob.var 28 [AV.int .i64 (o2_Mod), AV.sl 3 (List.map c_api_Var (o2_Locs)), AV.sl 4 (List.map c_api_Thread (o2_Threads)), AV.sl 3 (List.map c_api_Claim (o2_Claims))], Ob.row 53 3 (List.map encOp (s184)), Ob.var 57 [AV.int .i64 (x1.f_Op), AV.int .i64 (x1.f_N), AV.str (x1.f_Name), AV.str (x1.f_In), AV.int .i64 (x1.f_At)], Ob.var 74 [AV.int .i64 ((y9).1), AV.func 55 [] []]]) (fun (x197, x198, x199) a196 => stOf 80 [(0, AV.ptr 0 0), (5, AV.ptr 4 0), (10, AV.int .i64 (x197))]) (fun (x197, x198, x199) a196 => [Ob.var 87 [AV.sl 5 (List.map c_api_Node (m_l)), AV.func 33 [] [AV.ptr 1 0, AV.ptr 2 0], AV.row 3 (List.length (x199)), AV.bool (x198)], Ob.var 23 [AV.sl 1 (List.map encS (o1))], Ob.var 28 [AV.int .i64 (o2_Mod), AV.sl 3 (List.map c_api_Var (o2_Locs)), AV.sl 4 (List.map c_api_Thread (o2_Threads)), AV.sl 3 (List.map c_api_Claim (o2_Claims))], Ob.row 53 3 (List.map encOp (x199)), Ob.var 57 [AV.int .i64 (x1.f_Op), AV.int .i64 (x1.f_N), AV.str (x1.f_Name), AV.str (x1.f_In), AV.int .i64 (x1.f_At)], Ob.var 74 [AV.int .i64 ((y9).1), AV.func 55 [] []]]) (fun v => (AV.int .i64 ((v).1), [Ob.var 87 [AV.sl 5 (List.map c_api_Node (m_l)), AV.func 33 [] [AV.ptr 1 0, AV.ptr 2 0], AV.row 3 (List.length ((v).2.1)), AV.bool ((v).2.2)], Ob.var 23 [AV.sl 1 (List.map encS (o1))], Ob.var 28 [AV.int .i64 (o2_Mod), AV.sl 3 (List.map c_api_Var (o2_Locs)), AV.sl 4 (List.map c_api_Thread (o2_Threads)), AV.sl 3 (List.map c_api_Claim (o2_Claims))], Ob.row 53 3 (List.map encOp ((v).2.1))])) (fun k s => code_maker_node_1_L5 n (m_code_maker_node_1 n) m_l o1 o2_Mod o2_Locs o2_Threads o2_Claims y9 k ((s).1) ((s).2.1) ((s).2.2.1) ((s).2.2.2)) (fun s => rfl) o192 ?_ n (IntKind.i64.wrap (v1_i + 1), 0, m_ok, m_out) (fun _ => 0) _ _ ho192 ?_ (by first | rfl | (simp only [ls, List.map_append, List.map_cons, List.map_nil, List.append_nil, List.length_set, length_copyL] <;> rfl)) (by first | rfl | (simp only [ls, List.map_append, List.map_cons, List.map_nil, List.append_nil, List.length_set, length_copyL] <;> rfl))
      · intro k185 ss a186 K187 cont188 hK189 hcont190 hm hr191
        obtain ⟨s181, s182, s183, s184⟩ := ss
        replace hm : code_maker_node_1_L5 n (m_code_maker_node_1 n) m_l o1 o2_Mod o2_Locs o2_Threads o2_Claims y9 (k185 + 1) s181 s182 s183 s184 = some o192 := hm
        rw [code_maker_node_1_L5] at hm
        conv => lhs; whnf
        refine bif_or2 hm ?_ ?_ <;> clear hm <;> intro hc193 hm
        · simp only [hc193, ls]
          conv => lhs; whnf
          refine bind_some2 hm ?_; clear hm; intro y194 hy194 hm
          have hk195 : call false 45 [AV.ptr 0 0, AV.int .i64 (s181)] [Ob.var 87 [AV.sl 5 (List.map c_api_Node (m_l)), AV.func 33 [] [AV.ptr 1 0, AV.ptr 2 0], AV.row 3 (List.length (s184)), AV.bool (s183)], Ob.var 23 [AV.sl 1 (List.map encS (o1))], Ob.var 28 [AV.int .i64 (o2_Mod), AV.sl 3 (List.map c_api_Var (o2_Locs)), AV.sl 4 (List.map c_api_Thread (o2_Threads)), AV.sl 3 (List.map c_api_Claim (o2_Claims))], Ob.row 53 3 (List.map encOp (s184))] = some (AV.int .i64 ((y194).1), [Ob.var 87 [AV.sl 5 (List.map c_api_Node (m_l)), AV.func 33 [] [AV.ptr 1 0, AV.ptr 2 0], AV.row 3 (List.length ((y194).2.1)), AV.bool ((y194).2.2)], Ob.var 23 [AV.sl 1 (List.map encS (o1))], Ob.var 28 [AV.int .i64 (o2_Mod), AV.sl 3 (List.map c_api_Var (o2_Locs)), AV.sl 4 (List.map c_api_Thread (o2_Threads)), AV.sl 3 (List.map c_api_Claim (o2_Claims))], Ob.row 53 3 (List.map encOp ((y194).2.1))]) := (hc _ _ _).trans (ih_code_maker_node_1 s181 m_l s184 s183 o1 o2_Mod o2_Locs o2_Threads o2_Claims y194 hy194)
          try simp only [List.drop_zero, ls]
          first | simp only [hk195] | rewrite [hk195]
          try simp only [ls]
          conv => lhs; whnf
          exact cq (hcont190 ((y194).1, IntKind.i64.wrap (s182 + 1), (y194).2.2, (y194).2.1) (fun _ => 0) hm)
        · simp only [hc193, ls]
          conv => lhs; whnf
          have hq := Option.some.inj hm; clear hm; subst hq
          exact kq (hr191 (fun _ => 0))
      · cases o192 with
        | ret v =>
          have hq := Option.some.inj hm; clear hm; subst hq
          rfl
        | out t =>
          obtain ⟨x197, x198, x199⟩ := t
          intro a196
          dsimp only at hm
          conv => lhs; whnf
          refine chk_some2 hm ?_; clear hm; intro hc202 hm
          refine bif_pos (app_row hc202 (by first | rfl | simp only [List.length_map]) (by first | rfl | simp only [List.length_map]) (by first | rfl | simp only [List.length_map, take_map_len]) (by kernel_rfl)) ?_
          try simp only [lt]
          have hp200 : (List.map encOp (x199) : List (List AV)) ++ [[AV.int .i64 (x1.f_Op), AV.int .i64 (0), AV.int .i64 (0)]] = List.map encOp (x199 ++ ([(⟨x1.f_Op, 0, 0⟩ : OpS)] : List OpS)) := by first | rfl | (rw [List.map_append]; rfl) | (rw [List.map_append]; done) | (simp only [List.map_append, List.map_cons, List.map_nil, List.nil_append, encOp] <;> rfl)
          have hl201 : List.length (List.map encOp (x199) : List (List AV)) + List.length ([[AV.int .i64 (x1.f_Op), AV.int .i64 (0), AV.int .i64 (0)]] : List (List AV)) = List.length (x199 ++ ([(⟨x1.f_Op, 0, 0⟩ : OpS)] : List OpS)) := by simp only [List.length_map, List.length_append] <;> rfl
          have hl201_b : List.length x199 + List.length ([[AV.int .i64 (x1.f_Op), AV.int .i64 (0), AV.int .i64 (0)]] : List (List AV)) = List.length (x199 ++ ([(⟨x1.f_Op, 0, 0⟩ : OpS)] : List OpS)) := by simp only [List.length_map, List.length_append] <;> rfl
          have hl201_c : List.length x199 + List.length ([(⟨x1.f_Op, 0, 0⟩ : OpS)] : List OpS) = List.length (x199 ++ ([(⟨x1.f_Op, 0, 0⟩ : OpS)] : List OpS)) := by simp only [List.length_map, List.length_append] <;> rfl
          first | simp only [hp200, hl201] | (simp only [List.length_map, take_map_len]; simp only [hp200, hl201_b, hl201_c])
          try simp only [ls]
          conv => lhs; whnf
          have hq := Option.some.inj hm; clear hm; subst hq
          try simp only [ls]
          exact fq (y := some (AV.int .i64 (x197), [Ob.var 87 [AV.sl 5 (List.map c_api_Node (m_l)), AV.func 33 [] [AV.ptr 1 0, AV.ptr 2 0], AV.row 3 (List.length ((x199 ++ ([(⟨x1.f_Op, 0, 0⟩ : OpS)] : List OpS)))), AV.bool (x198)], Ob.var 23 [AV.sl 1 (List.map encS (o1))], Ob.var 28 [AV.int .i64 (o2_Mod), AV.sl 3 (List.map c_api_Var (o2_Locs)), AV.sl 4 (List.map c_api_Thread (o2_Threads)), AV.sl 3 (List.map c_api_Claim (o2_Claims))], Ob.row 53 3 (List.map encOp (x199 ++ ([(⟨x1.f_Op, 0, 0⟩ : OpS)] : List OpS)))]))
    · simp only [hc180, ls]
      conv => lhs; whnf
      refine bind_some2 hm ?_; clear hm; intro y204 hy204 hm
      have hk205 : call false 33 [AV.agg [AV.int .i64 (x1.f_Op), AV.int .i64 (x1.f_N), AV.str (x1.f_Name), AV.str (x1.f_In), AV.int .i64 (x1.f_At)], AV.ptr 0 0, AV.ptr 1 0] [Ob.var 23 [AV.sl 1 (List.map encS (o1))], Ob.var 28 [AV.int .i64 (o2_Mod), AV.sl 3 (List.map c_api_Var (o2_Locs)), AV.sl 4 (List.map c_api_Thread (o2_Threads)), AV.sl 3 (List.map c_api_Claim (o2_Claims))]] = some (AV.tup [AV.agg [AV.int .i64 ((y204).1.op), AV.int .i64 ((y204).1.n), AV.int .i64 ((y204).1.t)], AV.bool ((y204).2)], [Ob.var 23 [AV.sl 1 (List.map encS (o1))], Ob.var 28 [AV.int .i64 (o2_Mod), AV.sl 3 (List.map c_api_Var (o2_Locs)), AV.sl 4 (List.map c_api_Thread (o2_Threads)), AV.sl 3 (List.map c_api_Claim (o2_Claims))]]) := (hc _ _ _).trans (ok_code_Claim_1 n x1 o1 o2_Mod o2_Locs o2_Threads o2_Claims y204 hy204)
      try simp only [List.drop_zero, ls]
      first | simp only [hk205] | rewrite [hk205]
      try simp only [ls]
      conv => lhs; whnf
      refine bif_or2 hm ?_ ?_ <;> clear hm <;> intro hc206 hm
      · simp only [hc206, ls]
        conv => lhs; whnf
        refine chk_some2 hm ?_; clear hm; intro hc209 hm
        refine bif_pos (app_row hc209 (by first | rfl | simp only [List.length_map]) (by first | rfl | simp only [List.length_map]) (by first | rfl | simp only [List.length_map, take_map_len]) (by kernel_rfl)) ?_
        try simp only [lt]
        have hp207 : (List.map encOp (m_out) : List (List AV)) ++ [[AV.int .i64 ((y204).1.op), AV.int .i64 ((y204).1.n), AV.int .i64 ((y204).1.t)]] = List.map encOp (m_out ++ ([(y204).1] : List OpS)) := by first | rfl | (rw [List.map_append]; rfl) | (rw [List.map_append]; done) | (simp only [List.map_append, List.map_cons, List.map_nil, List.nil_append, encOp] <;> rfl)
        have hl208 : List.length (List.map encOp (m_out) : List (List AV)) + List.length ([[AV.int .i64 ((y204).1.op), AV.int .i64 ((y204).1.n), AV.int .i64 ((y204).1.t)]] : List (List AV)) = List.length (m_out ++ ([(y204).1] : List OpS)) := by simp only [List.length_map, List.length_append] <;> rfl
        have hl208_b : List.length m_out + List.length ([[AV.int .i64 ((y204).1.op), AV.int .i64 ((y204).1.n), AV.int .i64 ((y204).1.t)]] : List (List AV)) = List.length (m_out ++ ([(y204).1] : List OpS)) := by simp only [List.length_map, List.length_append] <;> rfl
        have hl208_c : List.length m_out + List.length ([(y204).1] : List OpS) = List.length (m_out ++ ([(y204).1] : List OpS)) := by simp only [List.length_map, List.length_append] <;> rfl
        first | simp only [hp207, hl208] | (simp only [List.length_map, take_map_len]; simp only [hp207, hl208_b, hl208_c])
        try simp only [ls]
        conv => lhs; whnf
        have hq := Option.some.inj hm; clear hm; subst hq
        try simp only [ls]
        exact fq (y := some (AV.int .i64 (IntKind.i64.wrap (v1_i + 1)), [Ob.var 87 [AV.sl 5 (List.map c_api_Node (m_l)), AV.func 33 [] [AV.ptr 1 0, AV.ptr 2 0], AV.row 3 (List.length ((m_out ++ ([(y204).1] : List OpS)))), AV.bool ((y204).2)], Ob.var 23 [AV.sl 1 (List.map encS (o1))], Ob.var 28 [AV.int .i64 (o2_Mod), AV.sl 3 (List.map c_api_Var (o2_Locs)), AV.sl 4 (List.map c_api_Thread (o2_Threads)), AV.sl 3 (List.map c_api_Claim (o2_Claims))], Ob.row 53 3 (List.map encOp (m_out ++ ([(y204).1] : List OpS)))]))
      · simp only [hc206, ls]
        conv => lhs; whnf
        refine chk_some2 hm ?_; clear hm; intro hc212 hm
        refine bif_pos (app_row hc212 (by first | rfl | simp only [List.length_map]) (by first | rfl | simp only [List.length_map]) (by first | rfl | simp only [List.length_map, take_map_len]) (by kernel_rfl)) ?_
        try simp only [lt]
        have hp210 : (List.map encOp (m_out) : List (List AV)) ++ [[AV.int .i64 ((y204).1.op), AV.int .i64 ((y204).1.n), AV.int .i64 ((y204).1.t)]] = List.map encOp (m_out ++ ([(y204).1] : List OpS)) := by first | rfl | (rw [List.map_append]; rfl) | (rw [List.map_append]; done) | (simp only [List.map_append, List.map_cons, List.map_nil, List.nil_append, encOp] <;> rfl)
        have hl211 : List.length (List.map encOp (m_out) : List (List AV)) + List.length ([[AV.int .i64 ((y204).1.op), AV.int .i64 ((y204).1.n), AV.int .i64 ((y204).1.t)]] : List (List AV)) = List.length (m_out ++ ([(y204).1] : List OpS)) := by simp only [List.length_map, List.length_append] <;> rfl
        have hl211_b : List.length m_out + List.length ([[AV.int .i64 ((y204).1.op), AV.int .i64 ((y204).1.n), AV.int .i64 ((y204).1.t)]] : List (List AV)) = List.length (m_out ++ ([(y204).1] : List OpS)) := by simp only [List.length_map, List.length_append] <;> rfl
        have hl211_c : List.length m_out + List.length ([(y204).1] : List OpS) = List.length (m_out ++ ([(y204).1] : List OpS)) := by simp only [List.length_map, List.length_append] <;> rfl
        first | simp only [hp210, hl211] | (simp only [List.length_map, take_map_len]; simp only [hp210, hl211_b, hl211_c])
        try simp only [ls]
        conv => lhs; whnf
        have hq := Option.some.inj hm; clear hm; subst hq
        try simp only [ls]
        exact fq (y := some (AV.int .i64 (IntKind.i64.wrap (v1_i + 1)), [Ob.var 87 [AV.sl 5 (List.map c_api_Node (m_l)), AV.func 33 [] [AV.ptr 1 0, AV.ptr 2 0], AV.row 3 (List.length ((m_out ++ ([(y204).1] : List OpS)))), AV.bool (false)], Ob.var 23 [AV.sl 1 (List.map encS (o1))], Ob.var 28 [AV.int .i64 (o2_Mod), AV.sl 3 (List.map c_api_Var (o2_Locs)), AV.sl 4 (List.map c_api_Thread (o2_Threads)), AV.sl 3 (List.map c_api_Claim (o2_Claims))], Ob.row 53 3 (List.map encOp (m_out ++ ([(y204).1] : List OpS)))]))
  | c6 y10 =>
    dsimp only at hm
    have hk3 : call false 37 [AV.int .i64 (x1.f_Op)] [] = some (AV.tup [AV.agg [AV.int .i64 ((y10).1), AV.func 54 [] []], AV.bool ((y10).2)], []) := (hc _ _ _).trans (ok_code_of n x1.f_Op (.c6 y10) hy2)
    try simp only [List.drop_zero, ls]
    first | simp only [hk3] | rewrite [hk3]
    try simp only [ls]
    conv => lhs; whnf
    refine bif_or2 hm ?_ ?_ <;> clear hm <;> intro hc213 hm
    · simp only [hc213, ls]
      conv => lhs; whnf
      refine bind_some2 hm ?_; clear hm; intro o225 ho225 hm
      refine rounds_sim (σ := (Int × Int × Bool × (List OpS))) (τ := (Int × Bool × (List OpS))) (ν := (Int × (List OpS) × Bool)) 0 (fun (s214, s215, s216, s217) a219 => stOf 80 [(0, AV.ptr 0 0), (5, AV.ptr 4 0), (10, AV.int .i64 (s214)), (60, AV.int .i64 ((y10).1)), (61, AV.int .i64 (s215))]) (fun (s214, s215, s216, s217) a219 => [Ob.var 87 [AV.sl 5 (List.map c_api_Node (m_l)), AV.func 33 [] [AV.ptr 1 0, AV.ptr 2 0], AV.row 3 (List.length (s217)), AV.bool (s216)], Ob.var 23 [AV.sl 1 (List.map encS (o1))], Ob.var 28 [AV.int .i64 (o2_Mod), AV.sl 3 (List.map c_api_Var (o2_Locs)), AV.sl 4 (List.map c_api_Thread (o2_Threads)), AV.sl 3 (List.map c_api_Claim (o2_Claims))], Ob.row 53 3 (List.map encOp (s217)), Ob.var 57 [AV.int .i64 (x1.f_Op), AV.int .i64 (x1.f_N), AV.str (x1.f_Name), AV.str (x1.f_In), AV.int .i64 (x1.f_At)], Ob.var 74 [AV.int .i64 ((y10).1), AV.func 54 [] []]]) (fun (x230, x231, x232) a229 => stOf 80 [(0, AV.ptr 0 0), (5, AV.ptr 4 0), (10, AV.int .i64 (x230))]) (fun (x230, x231, x232) a229 => [Ob.var 87 [AV.sl 5 (List.map c_api_Node (m_l)), AV.func 33 [] [AV.ptr 1 0, AV.ptr 2 0], AV.row 3 (List.length (x232)), AV.bool (x231)], Ob.var 23 [AV.sl 1 (List.map encS (o1))], Ob.var 28 [AV.int .i64 (o2_Mod), AV.sl 3 (List.map c_api_Var (o2_Locs)), AV.sl 4 (List.map c_api_Thread (o2_Threads)), AV.sl 3 (List.map c_api_Claim (o2_Claims))], Ob.row 53 3 (List.map encOp (x232)), Ob.var 57 [AV.int .i64 (x1.f_Op), AV.int .i64 (x1.f_N), AV.str (x1.f_Name), AV.str (x1.f_In), AV.int .i64 (x1.f_At)], Ob.var 74 [AV.int .i64 ((y10).1), AV.func 54 [] []]]) (fun v => (AV.int .i64 ((v).1), [Ob.var 87 [AV.sl 5 (List.map c_api_Node (m_l)), AV.func 33 [] [AV.ptr 1 0, AV.ptr 2 0], AV.row 3 (List.length ((v).2.1)), AV.bool ((v).2.2)], Ob.var 23 [AV.sl 1 (List.map encS (o1))], Ob.var 28 [AV.int .i64 (o2_Mod), AV.sl 3 (List.map c_api_Var (o2_Locs)), AV.sl 4 (List.map c_api_Thread (o2_Threads)), AV.sl 3 (List.map c_api_Claim (o2_Claims))], Ob.row 53 3 (List.map encOp ((v).2.1))])) (fun k s => code_maker_node_1_L6 n (m_code_maker_node_1 n) m_l o1 o2_Mod o2_Locs o2_Threads o2_Claims y10 k ((s).1) ((s).2.1) ((s).2.2.1) ((s).2.2.2)) (fun s => rfl) o225 ?_ n (IntKind.i64.wrap (v1_i + 1), 0, m_ok, m_out) (fun _ => 0) _ _ ho225 ?_ (by first | rfl | (simp only [ls, List.map_append, List.map_cons, List.map_nil, List.append_nil, List.length_set, length_copyL] <;> rfl)) (by first | rfl | (simp only [ls, List.map_append, List.map_cons, List.map_nil, List.append_nil, List.length_set, length_copyL] <;> rfl))
      · intro k218 ss a219 K220 cont221 hK222 hcont223 hm hr224
        obtain ⟨s214, s215, s216, s217⟩ := ss
        replace hm : code_maker_node_1_L6 n (m_code_maker_node_1 n) m_l o1 o2_Mod o2_Locs o2_Threads o2_Claims y10 (k218 + 1) s214 s215 s216 s217 = some o225 := hm
        rw [code_maker_node_1_L6] at hm
        conv => lhs; whnf
        refine bif_or2 hm ?_ ?_ <;> clear hm <;> intro hc226 hm
        · simp only [hc226, ls]
          conv => lhs; whnf
          refine bind_some2 hm ?_; clear hm; intro y227 hy227 hm
          have hk228 : call false 45 [AV.ptr 0 0, AV.int .i64 (s214)] [Ob.var 87 [AV.sl 5 (List.map c_api_Node (m_l)), AV.func 33 [] [AV.ptr 1 0, AV.ptr 2 0], AV.row 3 (List.length (s217)), AV.bool (s216)], Ob.var 23 [AV.sl 1 (List.map encS (o1))], Ob.var 28 [AV.int .i64 (o2_Mod), AV.sl 3 (List.map c_api_Var (o2_Locs)), AV.sl 4 (List.map c_api_Thread (o2_Threads)), AV.sl 3 (List.map c_api_Claim (o2_Claims))], Ob.row 53 3 (List.map encOp (s217))] = some (AV.int .i64 ((y227).1), [Ob.var 87 [AV.sl 5 (List.map c_api_Node (m_l)), AV.func 33 [] [AV.ptr 1 0, AV.ptr 2 0], AV.row 3 (List.length ((y227).2.1)), AV.bool ((y227).2.2)], Ob.var 23 [AV.sl 1 (List.map encS (o1))], Ob.var 28 [AV.int .i64 (o2_Mod), AV.sl 3 (List.map c_api_Var (o2_Locs)), AV.sl 4 (List.map c_api_Thread (o2_Threads)), AV.sl 3 (List.map c_api_Claim (o2_Claims))], Ob.row 53 3 (List.map encOp ((y227).2.1))]) := (hc _ _ _).trans (ih_code_maker_node_1 s214 m_l s217 s216 o1 o2_Mod o2_Locs o2_Threads o2_Claims y227 hy227)
          try simp only [List.drop_zero, ls]
          first | simp only [hk228] | rewrite [hk228]
          try simp only [ls]
          conv => lhs; whnf
          exact cq (hcont223 ((y227).1, IntKind.i64.wrap (s215 + 1), (y227).2.2, (y227).2.1) (fun _ => 0) hm)
        · simp only [hc226, ls]
          conv => lhs; whnf
          have hq := Option.some.inj hm; clear hm; subst hq
          exact kq (hr224 (fun _ => 0))
      · cases o225 with
        | ret v =>
          have hq := Option.some.inj hm; clear hm; subst hq
          rfl
        | out t =>
          obtain ⟨x230, x231, x232⟩ := t
          intro a229
          dsimp only at hm
          conv => lhs; whnf
          refine chk_some2 hm ?_; clear hm; intro hc235 hm
          refine bif_pos (app_row hc235 (by first | rfl | simp only [List.length_map]) (by first | rfl | simp only [List.length_map]) (by first | rfl | simp only [List.length_map, take_map_len]) (by kernel_rfl)) ?_
          try simp only [lt]
          have hp233 : (List.map encOp (x232) : List (List AV)) ++ [[AV.int .i64 (x1.f_Op), AV.int .i64 (0), AV.int .i64 (0)]] = List.map encOp (x232 ++ ([(⟨x1.f_Op, 0, 0⟩ : OpS)] : List OpS)) := by first | rfl | (rw [List.map_append]; rfl) | (rw [List.map_append]; done) | (simp only [List.map_append, List.map_cons, List.map_nil, List.nil_append, encOp] <;> rfl)
          have hl234 : List.length (List.map encOp (x232) : List (List AV)) + List.length ([[AV.int .i64 (x1.f_Op), AV.int .i64 (0), AV.int .i64 (0)]] : List (List AV)) = List.length (x232 ++ ([(⟨x1.f_Op, 0, 0⟩ : OpS)] : List OpS)) := by simp only [List.length_map, List.length_append] <;> rfl
          have hl234_b : List.length x232 + List.length ([[AV.int .i64 (x1.f_Op), AV.int .i64 (0), AV.int .i64 (0)]] : List (List AV)) = List.length (x232 ++ ([(⟨x1.f_Op, 0, 0⟩ : OpS)] : List OpS)) := by simp only [List.length_map, List.length_append] <;> rfl
          have hl234_c : List.length x232 + List.length ([(⟨x1.f_Op, 0, 0⟩ : OpS)] : List OpS) = List.length (x232 ++ ([(⟨x1.f_Op, 0, 0⟩ : OpS)] : List OpS)) := by simp only [List.length_map, List.length_append] <;> rfl
          first | simp only [hp233, hl234] | (simp only [List.length_map, take_map_len]; simp only [hp233, hl234_b, hl234_c])
          try simp only [ls]
          conv => lhs; whnf
          have hq := Option.some.inj hm; clear hm; subst hq
          try simp only [ls]
          exact fq (y := some (AV.int .i64 (x230), [Ob.var 87 [AV.sl 5 (List.map c_api_Node (m_l)), AV.func 33 [] [AV.ptr 1 0, AV.ptr 2 0], AV.row 3 (List.length ((x232 ++ ([(⟨x1.f_Op, 0, 0⟩ : OpS)] : List OpS)))), AV.bool (x231)], Ob.var 23 [AV.sl 1 (List.map encS (o1))], Ob.var 28 [AV.int .i64 (o2_Mod), AV.sl 3 (List.map c_api_Var (o2_Locs)), AV.sl 4 (List.map c_api_Thread (o2_Threads)), AV.sl 3 (List.map c_api_Claim (o2_Claims))], Ob.row 53 3 (List.map encOp (x232 ++ ([(⟨x1.f_Op, 0, 0⟩ : OpS)] : List OpS)))]))
    · simp only [hc213, ls]
      conv => lhs; whnf
      refine bind_some2 hm ?_; clear hm; intro y237 hy237 hm
      have hk238 : call false 33 [AV.agg [AV.int .i64 (x1.f_Op), AV.int .i64 (x1.f_N), AV.str (x1.f_Name), AV.str (x1.f_In), AV.int .i64 (x1.f_At)], AV.ptr 0 0, AV.ptr 1 0] [Ob.var 23 [AV.sl 1 (List.map encS (o1))], Ob.var 28 [AV.int .i64 (o2_Mod), AV.sl 3 (List.map c_api_Var (o2_Locs)), AV.sl 4 (List.map c_api_Thread (o2_Threads)), AV.sl 3 (List.map c_api_Claim (o2_Claims))]] = some (AV.tup [AV.agg [AV.int .i64 ((y237).1.op), AV.int .i64 ((y237).1.n), AV.int .i64 ((y237).1.t)], AV.bool ((y237).2)], [Ob.var 23 [AV.sl 1 (List.map encS (o1))], Ob.var 28 [AV.int .i64 (o2_Mod), AV.sl 3 (List.map c_api_Var (o2_Locs)), AV.sl 4 (List.map c_api_Thread (o2_Threads)), AV.sl 3 (List.map c_api_Claim (o2_Claims))]]) := (hc _ _ _).trans (ok_code_Claim_1 n x1 o1 o2_Mod o2_Locs o2_Threads o2_Claims y237 hy237)
      try simp only [List.drop_zero, ls]
      first | simp only [hk238] | rewrite [hk238]
      try simp only [ls]
      conv => lhs; whnf
      refine bif_or2 hm ?_ ?_ <;> clear hm <;> intro hc239 hm
      · simp only [hc239, ls]
        conv => lhs; whnf
        refine chk_some2 hm ?_; clear hm; intro hc242 hm
        refine bif_pos (app_row hc242 (by first | rfl | simp only [List.length_map]) (by first | rfl | simp only [List.length_map]) (by first | rfl | simp only [List.length_map, take_map_len]) (by kernel_rfl)) ?_
        try simp only [lt]
        have hp240 : (List.map encOp (m_out) : List (List AV)) ++ [[AV.int .i64 ((y237).1.op), AV.int .i64 ((y237).1.n), AV.int .i64 ((y237).1.t)]] = List.map encOp (m_out ++ ([(y237).1] : List OpS)) := by first | rfl | (rw [List.map_append]; rfl) | (rw [List.map_append]; done) | (simp only [List.map_append, List.map_cons, List.map_nil, List.nil_append, encOp] <;> rfl)
        have hl241 : List.length (List.map encOp (m_out) : List (List AV)) + List.length ([[AV.int .i64 ((y237).1.op), AV.int .i64 ((y237).1.n), AV.int .i64 ((y237).1.t)]] : List (List AV)) = List.length (m_out ++ ([(y237).1] : List OpS)) := by simp only [List.length_map, List.length_append] <;> rfl
        have hl241_b : List.length m_out + List.length ([[AV.int .i64 ((y237).1.op), AV.int .i64 ((y237).1.n), AV.int .i64 ((y237).1.t)]] : List (List AV)) = List.length (m_out ++ ([(y237).1] : List OpS)) := by simp only [List.length_map, List.length_append] <;> rfl
        have hl241_c : List.length m_out + List.length ([(y237).1] : List OpS) = List.length (m_out ++ ([(y237).1] : List OpS)) := by simp only [List.length_map, List.length_append] <;> rfl
        first | simp only [hp240, hl241] | (simp only [List.length_map, take_map_len]; simp only [hp240, hl241_b, hl241_c])
        try simp only [ls]
        conv => lhs; whnf
        have hq := Option.some.inj hm; clear hm; subst hq
        try simp only [ls]
        exact fq (y := some (AV.int .i64 (IntKind.i64.wrap (v1_i + 1)), [Ob.var 87 [AV.sl 5 (List.map c_api_Node (m_l)), AV.func 33 [] [AV.ptr 1 0, AV.ptr 2 0], AV.row 3 (List.length ((m_out ++ ([(y237).1] : List OpS)))), AV.bool ((y237).2)], Ob.var 23 [AV.sl 1 (List.map encS (o1))], Ob.var 28 [AV.int .i64 (o2_Mod), AV.sl 3 (List.map c_api_Var (o2_Locs)), AV.sl 4 (List.map c_api_Thread (o2_Threads)), AV.sl 3 (List.map c_api_Claim (o2_Claims))], Ob.row 53 3 (List.map encOp (m_out ++ ([(y237).1] : List OpS)))]))
      · simp only [hc239, ls]
        conv => lhs; whnf
        refine chk_some2 hm ?_; clear hm; intro hc245 hm
        refine bif_pos (app_row hc245 (by first | rfl | simp only [List.length_map]) (by first | rfl | simp only [List.length_map]) (by first | rfl | simp only [List.length_map, take_map_len]) (by kernel_rfl)) ?_
        try simp only [lt]
        have hp243 : (List.map encOp (m_out) : List (List AV)) ++ [[AV.int .i64 ((y237).1.op), AV.int .i64 ((y237).1.n), AV.int .i64 ((y237).1.t)]] = List.map encOp (m_out ++ ([(y237).1] : List OpS)) := by first | rfl | (rw [List.map_append]; rfl) | (rw [List.map_append]; done) | (simp only [List.map_append, List.map_cons, List.map_nil, List.nil_append, encOp] <;> rfl)
        have hl244 : List.length (List.map encOp (m_out) : List (List AV)) + List.length ([[AV.int .i64 ((y237).1.op), AV.int .i64 ((y237).1.n), AV.int .i64 ((y237).1.t)]] : List (List AV)) = List.length (m_out ++ ([(y237).1] : List OpS)) := by simp only [List.length_map, List.length_append] <;> rfl
        have hl244_b : List.length m_out + List.length ([[AV.int .i64 ((y237).1.op), AV.int .i64 ((y237).1.n), AV.int .i64 ((y237).1.t)]] : List (List AV)) = List.length (m_out ++ ([(y237).1] : List OpS)) := by simp only [List.length_map, List.length_append] <;> rfl
        have hl244_c : List.length m_out + List.length ([(y237).1] : List OpS) = List.length (m_out ++ ([(y237).1] : List OpS)) := by simp only [List.length_map, List.length_append] <;> rfl
        first | simp only [hp243, hl244] | (simp only [List.length_map, take_map_len]; simp only [hp243, hl244_b, hl244_c])
        try simp only [ls]
        conv => lhs; whnf
        have hq := Option.some.inj hm; clear hm; subst hq
        try simp only [ls]
        exact fq (y := some (AV.int .i64 (IntKind.i64.wrap (v1_i + 1)), [Ob.var 87 [AV.sl 5 (List.map c_api_Node (m_l)), AV.func 33 [] [AV.ptr 1 0, AV.ptr 2 0], AV.row 3 (List.length ((m_out ++ ([(y237).1] : List OpS)))), AV.bool (false)], Ob.var 23 [AV.sl 1 (List.map encS (o1))], Ob.var 28 [AV.int .i64 (o2_Mod), AV.sl 3 (List.map c_api_Var (o2_Locs)), AV.sl 4 (List.map c_api_Thread (o2_Threads)), AV.sl 3 (List.map c_api_Claim (o2_Claims))], Ob.row 53 3 (List.map encOp (m_out ++ ([(y237).1] : List OpS)))]))
  | c7 y11 =>
    dsimp only at hm
    have hk3 : call false 37 [AV.int .i64 (x1.f_Op)] [] = some (AV.tup [AV.agg [AV.int .i64 ((y11).1), AV.func 53 [] []], AV.bool ((y11).2)], []) := (hc _ _ _).trans (ok_code_of n x1.f_Op (.c7 y11) hy2)
    try simp only [List.drop_zero, ls]
    first | simp only [hk3] | rewrite [hk3]
    try simp only [ls]
    conv => lhs; whnf
    refine bif_or2 hm ?_ ?_ <;> clear hm <;> intro hc246 hm
    · simp only [hc246, ls]
      conv => lhs; whnf
      refine bind_some2 hm ?_; clear hm; intro o258 ho258 hm
      refine rounds_sim (σ := (Int × Int × Bool × (List OpS))) (τ := (Int × Bool × (List OpS))) (ν := (Int × (List OpS) × Bool)) 0 (fun (s247, s248, s249, s250) a252 => stOf 80 [(0, AV.ptr 0 0), (5, AV.ptr 4 0), (10, AV.int .i64 (s247)), (60, AV.int .i64 ((y11).1)), (61, AV.int .i64 (s248))]) (fun (s247, s248, s249, s250) a252 => [Ob.var 87 [AV.sl 5 (List.map c_api_Node (m_l)), AV.func 33 [] [AV.ptr 1 0, AV.ptr 2 0], AV.row 3 (List.length (s250)), AV.bool (s249)], Ob.var 23 [AV.sl 1 (List.map encS (o1))], Ob.var 28 [AV.int .i64 (o2_Mod), AV.sl 3 (List.map c_api_Var (o2_Locs)), AV.sl 4 (List.map c_api_Thread (o2_Threads)), AV.sl 3 (List.map c_api_Claim (o2_Claims))], Ob.row 53 3 (List.map encOp (s250)), Ob.var 57 [AV.int .i64 (x1.f_Op), AV.int .i64 (x1.f_N), AV.str (x1.f_Name), AV.str (x1.f_In), AV.int .i64 (x1.f_At)], Ob.var 74 [AV.int .i64 ((y11).1), AV.func 53 [] []]]) (fun (x263, x264, x265) a262 => stOf 80 [(0, AV.ptr 0 0), (5, AV.ptr 4 0), (10, AV.int .i64 (x263))]) (fun (x263, x264, x265) a262 => [Ob.var 87 [AV.sl 5 (List.map c_api_Node (m_l)), AV.func 33 [] [AV.ptr 1 0, AV.ptr 2 0], AV.row 3 (List.length (x265)), AV.bool (x264)], Ob.var 23 [AV.sl 1 (List.map encS (o1))], Ob.var 28 [AV.int .i64 (o2_Mod), AV.sl 3 (List.map c_api_Var (o2_Locs)), AV.sl 4 (List.map c_api_Thread (o2_Threads)), AV.sl 3 (List.map c_api_Claim (o2_Claims))], Ob.row 53 3 (List.map encOp (x265)), Ob.var 57 [AV.int .i64 (x1.f_Op), AV.int .i64 (x1.f_N), AV.str (x1.f_Name), AV.str (x1.f_In), AV.int .i64 (x1.f_At)], Ob.var 74 [AV.int .i64 ((y11).1), AV.func 53 [] []]]) (fun v => (AV.int .i64 ((v).1), [Ob.var 87 [AV.sl 5 (List.map c_api_Node (m_l)), AV.func 33 [] [AV.ptr 1 0, AV.ptr 2 0], AV.row 3 (List.length ((v).2.1)), AV.bool ((v).2.2)], Ob.var 23 [AV.sl 1 (List.map encS (o1))], Ob.var 28 [AV.int .i64 (o2_Mod), AV.sl 3 (List.map c_api_Var (o2_Locs)), AV.sl 4 (List.map c_api_Thread (o2_Threads)), AV.sl 3 (List.map c_api_Claim (o2_Claims))], Ob.row 53 3 (List.map encOp ((v).2.1))])) (fun k s => code_maker_node_1_L7 n (m_code_maker_node_1 n) m_l o1 o2_Mod o2_Locs o2_Threads o2_Claims y11 k ((s).1) ((s).2.1) ((s).2.2.1) ((s).2.2.2)) (fun s => rfl) o258 ?_ n (IntKind.i64.wrap (v1_i + 1), 0, m_ok, m_out) (fun _ => 0) _ _ ho258 ?_ (by first | rfl | (simp only [ls, List.map_append, List.map_cons, List.map_nil, List.append_nil, List.length_set, length_copyL] <;> rfl)) (by first | rfl | (simp only [ls, List.map_append, List.map_cons, List.map_nil, List.append_nil, List.length_set, length_copyL] <;> rfl))
      · intro k251 ss a252 K253 cont254 hK255 hcont256 hm hr257
        obtain ⟨s247, s248, s249, s250⟩ := ss
        replace hm : code_maker_node_1_L7 n (m_code_maker_node_1 n) m_l o1 o2_Mod o2_Locs o2_Threads o2_Claims y11 (k251 + 1) s247 s248 s249 s250 = some o258 := hm
        rw [code_maker_node_1_L7] at hm
        conv => lhs; whnf
        refine bif_or2 hm ?_ ?_ <;> clear hm <;> intro hc259 hm
        · simp only [hc259, ls]
          conv => lhs; whnf
          refine bind_some2 hm ?_; clear hm; intro y260 hy260 hm
          have hk261 : call false 45 [AV.ptr 0 0, AV.int .i64 (s247)] [Ob.var 87 [AV.sl 5 (List.map c_api_Node (m_l)), AV.func 33 [] [AV.ptr 1 0, AV.ptr 2 0], AV.row 3 (List.length (s250)), AV.bool (s249)], Ob.var 23 [AV.sl 1 (List.map encS (o1))], Ob.var 28 [AV.int .i64 (o2_Mod), AV.sl 3 (List.map c_api_Var (o2_Locs)), AV.sl 4 (List.map c_api_Thread (o2_Threads)), AV.sl 3 (List.map c_api_Claim (o2_Claims))], Ob.row 53 3 (List.map encOp (s250))] = some (AV.int .i64 ((y260).1), [Ob.var 87 [AV.sl 5 (List.map c_api_Node (m_l)), AV.func 33 [] [AV.ptr 1 0, AV.ptr 2 0], AV.row 3 (List.length ((y260).2.1)), AV.bool ((y260).2.2)], Ob.var 23 [AV.sl 1 (List.map encS (o1))], Ob.var 28 [AV.int .i64 (o2_Mod), AV.sl 3 (List.map c_api_Var (o2_Locs)), AV.sl 4 (List.map c_api_Thread (o2_Threads)), AV.sl 3 (List.map c_api_Claim (o2_Claims))], Ob.row 53 3 (List.map encOp ((y260).2.1))]) := (hc _ _ _).trans (ih_code_maker_node_1 s247 m_l s250 s249 o1 o2_Mod o2_Locs o2_Threads o2_Claims y260 hy260)
          try simp only [List.drop_zero, ls]
          first | simp only [hk261] | rewrite [hk261]
          try simp only [ls]
          conv => lhs; whnf
          exact cq (hcont256 ((y260).1, IntKind.i64.wrap (s248 + 1), (y260).2.2, (y260).2.1) (fun _ => 0) hm)
        · simp only [hc259, ls]
          conv => lhs; whnf
          have hq := Option.some.inj hm; clear hm; subst hq
          exact kq (hr257 (fun _ => 0))
      · cases o258 with
        | ret v =>
          have hq := Option.some.inj hm; clear hm; subst hq
          rfl
        | out t =>
          obtain ⟨x263, x264, x265⟩ := t
          intro a262
          dsimp only at hm
          conv => lhs; whnf
          refine chk_some2 hm ?_; clear hm; intro hc268 hm
          refine bif_pos (app_row hc268 (by first | rfl | simp only [List.length_map]) (by first | rfl | simp only [List.length_map]) (by first | rfl | simp only [List.length_map, take_map_len]) (by kernel_rfl)) ?_
          try simp only [lt]
          have hp266 : (List.map encOp (x265) : List (List AV)) ++ [[AV.int .i64 (x1.f_Op), AV.int .i64 (0), AV.int .i64 (0)]] = List.map encOp (x265 ++ ([(⟨x1.f_Op, 0, 0⟩ : OpS)] : List OpS)) := by first | rfl | (rw [List.map_append]; rfl) | (rw [List.map_append]; done) | (simp only [List.map_append, List.map_cons, List.map_nil, List.nil_append, encOp] <;> rfl)
          have hl267 : List.length (List.map encOp (x265) : List (List AV)) + List.length ([[AV.int .i64 (x1.f_Op), AV.int .i64 (0), AV.int .i64 (0)]] : List (List AV)) = List.length (x265 ++ ([(⟨x1.f_Op, 0, 0⟩ : OpS)] : List OpS)) := by simp only [List.length_map, List.length_append] <;> rfl
          have hl267_b : List.length x265 + List.length ([[AV.int .i64 (x1.f_Op), AV.int .i64 (0), AV.int .i64 (0)]] : List (List AV)) = List.length (x265 ++ ([(⟨x1.f_Op, 0, 0⟩ : OpS)] : List OpS)) := by simp only [List.length_map, List.length_append] <;> rfl
          have hl267_c : List.length x265 + List.length ([(⟨x1.f_Op, 0, 0⟩ : OpS)] : List OpS) = List.length (x265 ++ ([(⟨x1.f_Op, 0, 0⟩ : OpS)] : List OpS)) := by simp only [List.length_map, List.length_append] <;> rfl
          first | simp only [hp266, hl267] | (simp only [List.length_map, take_map_len]; simp only [hp266, hl267_b, hl267_c])
          try simp only [ls]
          conv => lhs; whnf
          have hq := Option.some.inj hm; clear hm; subst hq
          try simp only [ls]
          exact fq (y := some (AV.int .i64 (x263), [Ob.var 87 [AV.sl 5 (List.map c_api_Node (m_l)), AV.func 33 [] [AV.ptr 1 0, AV.ptr 2 0], AV.row 3 (List.length ((x265 ++ ([(⟨x1.f_Op, 0, 0⟩ : OpS)] : List OpS)))), AV.bool (x264)], Ob.var 23 [AV.sl 1 (List.map encS (o1))], Ob.var 28 [AV.int .i64 (o2_Mod), AV.sl 3 (List.map c_api_Var (o2_Locs)), AV.sl 4 (List.map c_api_Thread (o2_Threads)), AV.sl 3 (List.map c_api_Claim (o2_Claims))], Ob.row 53 3 (List.map encOp (x265 ++ ([(⟨x1.f_Op, 0, 0⟩ : OpS)] : List OpS)))]))
    · simp only [hc246, ls]
      conv => lhs; whnf
      refine bind_some2 hm ?_; clear hm; intro y270 hy270 hm
      have hk271 : call false 33 [AV.agg [AV.int .i64 (x1.f_Op), AV.int .i64 (x1.f_N), AV.str (x1.f_Name), AV.str (x1.f_In), AV.int .i64 (x1.f_At)], AV.ptr 0 0, AV.ptr 1 0] [Ob.var 23 [AV.sl 1 (List.map encS (o1))], Ob.var 28 [AV.int .i64 (o2_Mod), AV.sl 3 (List.map c_api_Var (o2_Locs)), AV.sl 4 (List.map c_api_Thread (o2_Threads)), AV.sl 3 (List.map c_api_Claim (o2_Claims))]] = some (AV.tup [AV.agg [AV.int .i64 ((y270).1.op), AV.int .i64 ((y270).1.n), AV.int .i64 ((y270).1.t)], AV.bool ((y270).2)], [Ob.var 23 [AV.sl 1 (List.map encS (o1))], Ob.var 28 [AV.int .i64 (o2_Mod), AV.sl 3 (List.map c_api_Var (o2_Locs)), AV.sl 4 (List.map c_api_Thread (o2_Threads)), AV.sl 3 (List.map c_api_Claim (o2_Claims))]]) := (hc _ _ _).trans (ok_code_Claim_1 n x1 o1 o2_Mod o2_Locs o2_Threads o2_Claims y270 hy270)
      try simp only [List.drop_zero, ls]
      first | simp only [hk271] | rewrite [hk271]
      try simp only [ls]
      conv => lhs; whnf
      refine bif_or2 hm ?_ ?_ <;> clear hm <;> intro hc272 hm
      · simp only [hc272, ls]
        conv => lhs; whnf
        refine chk_some2 hm ?_; clear hm; intro hc275 hm
        refine bif_pos (app_row hc275 (by first | rfl | simp only [List.length_map]) (by first | rfl | simp only [List.length_map]) (by first | rfl | simp only [List.length_map, take_map_len]) (by kernel_rfl)) ?_
        try simp only [lt]
        have hp273 : (List.map encOp (m_out) : List (List AV)) ++ [[AV.int .i64 ((y270).1.op), AV.int .i64 ((y270).1.n), AV.int .i64 ((y270).1.t)]] = List.map encOp (m_out ++ ([(y270).1] : List OpS)) := by first | rfl | (rw [List.map_append]; rfl) | (rw [List.map_append]; done) | (simp only [List.map_append, List.map_cons, List.map_nil, List.nil_append, encOp] <;> rfl)
        have hl274 : List.length (List.map encOp (m_out) : List (List AV)) + List.length ([[AV.int .i64 ((y270).1.op), AV.int .i64 ((y270).1.n), AV.int .i64 ((y270).1.t)]] : List (List AV)) = List.length (m_out ++ ([(y270).1] : List OpS)) := by simp only [List.length_map, List.length_append] <;> rfl
        have hl274_b : List.length m_out + List.length ([[AV.int .i64 ((y270).1.op), AV.int .i64 ((y270).1.n), AV.int .i64 ((y270).1.t)]] : List (List AV)) = List.length (m_out ++ ([(y270).1] : List OpS)) := by simp only [List.length_map, List.length_append] <;> rfl
        have hl274_c : List.length m_out + List.length ([(y270).1] : List OpS) = List.length (m_out ++ ([(y270).1] : List OpS)) := by simp only [List.length_map, List.length_append] <;> rfl
        first | simp only [hp273, hl274] | (simp only [List.length_map, take_map_len]; simp only [hp273, hl274_b, hl274_c])
        try simp only [ls]
        conv => lhs; whnf
        have hq := Option.some.inj hm; clear hm; subst hq
        try simp only [ls]
        exact fq (y := some (AV.int .i64 (IntKind.i64.wrap (v1_i + 1)), [Ob.var 87 [AV.sl 5 (List.map c_api_Node (m_l)), AV.func 33 [] [AV.ptr 1 0, AV.ptr 2 0], AV.row 3 (List.length ((m_out ++ ([(y270).1] : List OpS)))), AV.bool ((y270).2)], Ob.var 23 [AV.sl 1 (List.map encS (o1))], Ob.var 28 [AV.int .i64 (o2_Mod), AV.sl 3 (List.map c_api_Var (o2_Locs)), AV.sl 4 (List.map c_api_Thread (o2_Threads)), AV.sl 3 (List.map c_api_Claim (o2_Claims))], Ob.row 53 3 (List.map encOp (m_out ++ ([(y270).1] : List OpS)))]))
      · simp only [hc272, ls]
        conv => lhs; whnf
        refine chk_some2 hm ?_; clear hm; intro hc278 hm
        refine bif_pos (app_row hc278 (by first | rfl | simp only [List.length_map]) (by first | rfl | simp only [List.length_map]) (by first | rfl | simp only [List.length_map, take_map_len]) (by kernel_rfl)) ?_
        try simp only [lt]
        have hp276 : (List.map encOp (m_out) : List (List AV)) ++ [[AV.int .i64 ((y270).1.op), AV.int .i64 ((y270).1.n), AV.int .i64 ((y270).1.t)]] = List.map encOp (m_out ++ ([(y270).1] : List OpS)) := by first | rfl | (rw [List.map_append]; rfl) | (rw [List.map_append]; done) | (simp only [List.map_append, List.map_cons, List.map_nil, List.nil_append, encOp] <;> rfl)
        have hl277 : List.length (List.map encOp (m_out) : List (List AV)) + List.length ([[AV.int .i64 ((y270).1.op), AV.int .i64 ((y270).1.n), AV.int .i64 ((y270).1.t)]] : List (List AV)) = List.length (m_out ++ ([(y270).1] : List OpS)) := by simp only [List.length_map, List.length_append] <;> rfl
        have hl277_b : List.length m_out + List.length ([[AV.int .i64 ((y270).1.op), AV.int .i64 ((y270).1.n), AV.int .i64 ((y270).1.t)]] : List (List AV)) = List.length (m_out ++ ([(y270).1] : List OpS)) := by simp only [List.length_map, List.length_append] <;> rfl
        have hl277_c : List.length m_out + List.length ([(y270).1] : List OpS) = List.length (m_out ++ ([(y270).1] : List OpS)) := by simp only [List.length_map, List.length_append] <;> rfl
        first | simp only [hp276, hl277] | (simp only [List.length_map, take_map_len]; simp only [hp276, hl277_b, hl277_c])
        try simp only [ls]
        conv => lhs; whnf
        have hq := Option.some.inj hm; clear hm; subst hq
        try simp only [ls]
        exact fq (y := some (AV.int .i64 (IntKind.i64.wrap (v1_i + 1)), [Ob.var 87 [AV.sl 5 (List.map c_api_Node (m_l)), AV.func 33 [] [AV.ptr 1 0, AV.ptr 2 0], AV.row 3 (List.length ((m_out ++ ([(y270).1] : List OpS)))), AV.bool (false)], Ob.var 23 [AV.sl 1 (List.map encS (o1))], Ob.var 28 [AV.int .i64 (o2_Mod), AV.sl 3 (List.map c_api_Var (o2_Locs)), AV.sl 4 (List.map c_api_Thread (o2_Threads)), AV.sl 3 (List.map c_api_Claim (o2_Claims))], Ob.row 53 3 (List.map encOp (m_out ++ ([(y270).1] : List OpS)))]))
  | c8 y12 =>
    dsimp only at hm
    have hk3 : call false 37 [AV.int .i64 (x1.f_Op)] [] = some (AV.tup [AV.agg [AV.int .i64 ((y12).1), AV.func 52 [] []], AV.bool ((y12).2)], []) := (hc _ _ _).trans (ok_code_of n x1.f_Op (.c8 y12) hy2)
    try simp only [List.drop_zero, ls]
    first | simp only [hk3] | rewrite [hk3]
    try simp only [ls]
    conv => lhs; whnf
    refine bif_or2 hm ?_ ?_ <;> clear hm <;> intro hc279 hm
    · simp only [hc279, ls]
      conv => lhs; whnf
      refine bind_some2 hm ?_; clear hm; intro o291 ho291 hm
      refine rounds_sim (σ := (Int × Int × Bool × (List OpS))) (τ := (Int × Bool × (List OpS))) (ν := (Int × (List OpS) × Bool)) 0 (fun (s280, s281, s282, s283) a285 => stOf 80 [(0, AV.ptr 0 0), (5, AV.ptr 4 0), (10, AV.int .i64 (s280)), (60, AV.int .i64 ((y12).1)), (61, AV.int .i64 (s281))]) (fun (s280, s281, s282, s283) a285 => [Ob.var 87 [AV.sl 5 (List.map c_api_Node (m_l)), AV.func 33 [] [AV.ptr 1 0, AV.ptr 2 0], AV.row 3 (List.length (s283)), AV.bool (s282)], Ob.var 23 [AV.sl 1 (List.map encS (o1))], Ob.var 28 [AV.int .i64 (o2_Mod), AV.sl 3 (List.map c_api_Var (o2_Locs)), AV.sl 4 (List.map c_api_Thread (o2_Threads)), AV.sl 3 (List.map c_api_Claim (o2_Claims))], Ob.row 53 3 (List.map encOp (s283)), Ob.var 57 [AV.int .i64 (x1.f_Op), AV.int .i64 (x1.f_N), AV.str (x1.f_Name), AV.str (x1.f_In), AV.int .i64 (x1.f_At)], Ob.var 74 [AV.int .i64 ((y12).1), AV.func 52 [] []]]) (fun (x296, x297, x298) a295 => stOf 80 [(0, AV.ptr 0 0), (5, AV.ptr 4 0), (10, AV.int .i64 (x296))]) (fun (x296, x297, x298) a295 => [Ob.var 87 [AV.sl 5 (List.map c_api_Node (m_l)), AV.func 33 [] [AV.ptr 1 0, AV.ptr 2 0], AV.row 3 (List.length (x298)), AV.bool (x297)], Ob.var 23 [AV.sl 1 (List.map encS (o1))], Ob.var 28 [AV.int .i64 (o2_Mod), AV.sl 3 (List.map c_api_Var (o2_Locs)), AV.sl 4 (List.map c_api_Thread (o2_Threads)), AV.sl 3 (List.map c_api_Claim (o2_Claims))], Ob.row 53 3 (List.map encOp (x298)), Ob.var 57 [AV.int .i64 (x1.f_Op), AV.int .i64 (x1.f_N), AV.str (x1.f_Name), AV.str (x1.f_In), AV.int .i64 (x1.f_At)], Ob.var 74 [AV.int .i64 ((y12).1), AV.func 52 [] []]]) (fun v => (AV.int .i64 ((v).1), [Ob.var 87 [AV.sl 5 (List.map c_api_Node (m_l)), AV.func 33 [] [AV.ptr 1 0, AV.ptr 2 0], AV.row 3 (List.length ((v).2.1)), AV.bool ((v).2.2)], Ob.var 23 [AV.sl 1 (List.map encS (o1))], Ob.var 28 [AV.int .i64 (o2_Mod), AV.sl 3 (List.map c_api_Var (o2_Locs)), AV.sl 4 (List.map c_api_Thread (o2_Threads)), AV.sl 3 (List.map c_api_Claim (o2_Claims))], Ob.row 53 3 (List.map encOp ((v).2.1))])) (fun k s => code_maker_node_1_L8 n (m_code_maker_node_1 n) m_l o1 o2_Mod o2_Locs o2_Threads o2_Claims y12 k ((s).1) ((s).2.1) ((s).2.2.1) ((s).2.2.2)) (fun s => rfl) o291 ?_ n (IntKind.i64.wrap (v1_i + 1), 0, m_ok, m_out) (fun _ => 0) _ _ ho291 ?_ (by first | rfl | (simp only [ls, List.map_append, List.map_cons, List.map_nil, List.append_nil, List.length_set, length_copyL] <;> rfl)) (by first | rfl | (simp only [ls, List.map_append, List.map_cons, List.map_nil, List.append_nil, List.length_set, length_copyL] <;> rfl))
      · intro k284 ss a285 K286 cont287 hK288 hcont289 hm hr290
        obtain ⟨s280, s281, s282, s283⟩ := ss
        replace hm : code_maker_node_1_L8 n (m_code_maker_node_1 n) m_l o1 o2_Mod o2_Locs o2_Threads o2_Claims y12 (k284 + 1) s280 s281 s282 s283 = some o291 := hm
        rw [code_maker_node_1_L8] at hm
        conv => lhs; whnf
        refine bif_or2 hm ?_ ?_ <;> clear hm <;> intro hc292 hm
        · simp only [hc292, ls]
          conv => lhs; whnf
          refine bind_some2 hm ?_; clear hm; intro y293 hy293 hm
          have hk294 : call false 45 [AV.ptr 0 0, AV.int .i64 (s280)] [Ob.var 87 [AV.sl 5 (List.map c_api_Node (m_l)), AV.func 33 [] [AV.ptr 1 0, AV.ptr 2 0], AV.row 3 (List.length (s283)), AV.bool (s282)], Ob.var 23 [AV.sl 1 (List.map encS (o1))], Ob.var 28 [AV.int .i64 (o2_Mod), AV.sl 3 (List.map c_api_Var (o2_Locs)), AV.sl 4 (List.map c_api_Thread (o2_Threads)), AV.sl 3 (List.map c_api_Claim (o2_Claims))], Ob.row 53 3 (List.map encOp (s283))] = some (AV.int .i64 ((y293).1), [Ob.var 87 [AV.sl 5 (List.map c_api_Node (m_l)), AV.func 33 [] [AV.ptr 1 0, AV.ptr 2 0], AV.row 3 (List.length ((y293).2.1)), AV.bool ((y293).2.2)], Ob.var 23 [AV.sl 1 (List.map encS (o1))], Ob.var 28 [AV.int .i64 (o2_Mod), AV.sl 3 (List.map c_api_Var (o2_Locs)), AV.sl 4 (List.map c_api_Thread (o2_Threads)), AV.sl 3 (List.map c_api_Claim (o2_Claims))], Ob.row 53 3 (List.map encOp ((y293).2.1))]) := (hc _ _ _).trans (ih_code_maker_node_1 s280 m_l s283 s282 o1 o2_Mod o2_Locs o2_Threads o2_Claims y293 hy293)
          try simp only [List.drop_zero, ls]
          first | simp only [hk294] | rewrite [hk294]
          try simp only [ls]
          conv => lhs; whnf
          exact cq (hcont289 ((y293).1, IntKind.i64.wrap (s281 + 1), (y293).2.2, (y293).2.1) (fun _ => 0) hm)
        · simp only [hc292, ls]
          conv => lhs; whnf
          have hq := Option.some.inj hm; clear hm; subst hq
          exact kq (hr290 (fun _ => 0))
      · cases o291 with
        | ret v =>
          have hq := Option.some.inj hm; clear hm; subst hq
          rfl
        | out t =>
          obtain ⟨x296, x297, x298⟩ := t
          intro a295
          dsimp only at hm
          conv => lhs; whnf
          refine chk_some2 hm ?_; clear hm; intro hc301 hm
          refine bif_pos (app_row hc301 (by first | rfl | simp only [List.length_map]) (by first | rfl | simp only [List.length_map]) (by first | rfl | simp only [List.length_map, take_map_len]) (by kernel_rfl)) ?_
          try simp only [lt]
          have hp299 : (List.map encOp (x298) : List (List AV)) ++ [[AV.int .i64 (x1.f_Op), AV.int .i64 (0), AV.int .i64 (0)]] = List.map encOp (x298 ++ ([(⟨x1.f_Op, 0, 0⟩ : OpS)] : List OpS)) := by first | rfl | (rw [List.map_append]; rfl) | (rw [List.map_append]; done) | (simp only [List.map_append, List.map_cons, List.map_nil, List.nil_append, encOp] <;> rfl)
          have hl300 : List.length (List.map encOp (x298) : List (List AV)) + List.length ([[AV.int .i64 (x1.f_Op), AV.int .i64 (0), AV.int .i64 (0)]] : List (List AV)) = List.length (x298 ++ ([(⟨x1.f_Op, 0, 0⟩ : OpS)] : List OpS)) := by simp only [List.length_map, List.length_append] <;> rfl
          have hl300_b : List.length x298 + List.length ([[AV.int .i64 (x1.f_Op), AV.int .i64 (0), AV.int .i64 (0)]] : List (List AV)) = List.length (x298 ++ ([(⟨x1.f_Op, 0, 0⟩ : OpS)] : List OpS)) := by simp only [List.length_map, List.length_append] <;> rfl
          have hl300_c : List.length x298 + List.length ([(⟨x1.f_Op, 0, 0⟩ : OpS)] : List OpS) = List.length (x298 ++ ([(⟨x1.f_Op, 0, 0⟩ : OpS)] : List OpS)) := by simp only [List.length_map, List.length_append] <;> rfl
          first | simp only [hp299, hl300] | (simp only [List.length_map, take_map_len]; simp only [hp299, hl300_b, hl300_c])
          try simp only [ls]
          conv => lhs; whnf
          have hq := Option.some.inj hm; clear hm; subst hq
          try simp only [ls]
          exact fq (y := some (AV.int .i64 (x296), [Ob.var 87 [AV.sl 5 (List.map c_api_Node (m_l)), AV.func 33 [] [AV.ptr 1 0, AV.ptr 2 0], AV.row 3 (List.length ((x298 ++ ([(⟨x1.f_Op, 0, 0⟩ : OpS)] : List OpS)))), AV.bool (x297)], Ob.var 23 [AV.sl 1 (List.map encS (o1))], Ob.var 28 [AV.int .i64 (o2_Mod), AV.sl 3 (List.map c_api_Var (o2_Locs)), AV.sl 4 (List.map c_api_Thread (o2_Threads)), AV.sl 3 (List.map c_api_Claim (o2_Claims))], Ob.row 53 3 (List.map encOp (x298 ++ ([(⟨x1.f_Op, 0, 0⟩ : OpS)] : List OpS)))]))
    · simp only [hc279, ls]
      conv => lhs; whnf
      refine bind_some2 hm ?_; clear hm; intro y303 hy303 hm
      have hk304 : call false 33 [AV.agg [AV.int .i64 (x1.f_Op), AV.int .i64 (x1.f_N), AV.str (x1.f_Name), AV.str (x1.f_In), AV.int .i64 (x1.f_At)], AV.ptr 0 0, AV.ptr 1 0] [Ob.var 23 [AV.sl 1 (List.map encS (o1))], Ob.var 28 [AV.int .i64 (o2_Mod), AV.sl 3 (List.map c_api_Var (o2_Locs)), AV.sl 4 (List.map c_api_Thread (o2_Threads)), AV.sl 3 (List.map c_api_Claim (o2_Claims))]] = some (AV.tup [AV.agg [AV.int .i64 ((y303).1.op), AV.int .i64 ((y303).1.n), AV.int .i64 ((y303).1.t)], AV.bool ((y303).2)], [Ob.var 23 [AV.sl 1 (List.map encS (o1))], Ob.var 28 [AV.int .i64 (o2_Mod), AV.sl 3 (List.map c_api_Var (o2_Locs)), AV.sl 4 (List.map c_api_Thread (o2_Threads)), AV.sl 3 (List.map c_api_Claim (o2_Claims))]]) := (hc _ _ _).trans (ok_code_Claim_1 n x1 o1 o2_Mod o2_Locs o2_Threads o2_Claims y303 hy303)
      try simp only [List.drop_zero, ls]
      first | simp only [hk304] | rewrite [hk304]
      try simp only [ls]
      conv => lhs; whnf
      refine bif_or2 hm ?_ ?_ <;> clear hm <;> intro hc305 hm
      · simp only [hc305, ls]
        conv => lhs; whnf
        refine chk_some2 hm ?_; clear hm; intro hc308 hm
        refine bif_pos (app_row hc308 (by first | rfl | simp only [List.length_map]) (by first | rfl | simp only [List.length_map]) (by first | rfl | simp only [List.length_map, take_map_len]) (by kernel_rfl)) ?_
        try simp only [lt]
        have hp306 : (List.map encOp (m_out) : List (List AV)) ++ [[AV.int .i64 ((y303).1.op), AV.int .i64 ((y303).1.n), AV.int .i64 ((y303).1.t)]] = List.map encOp (m_out ++ ([(y303).1] : List OpS)) := by first | rfl | (rw [List.map_append]; rfl) | (rw [List.map_append]; done) | (simp only [List.map_append, List.map_cons, List.map_nil, List.nil_append, encOp] <;> rfl)
        have hl307 : List.length (List.map encOp (m_out) : List (List AV)) + List.length ([[AV.int .i64 ((y303).1.op), AV.int .i64 ((y303).1.n), AV.int .i64 ((y303).1.t)]] : List (List AV)) = List.length (m_out ++ ([(y303).1] : List OpS)) := by simp only [List.length_map, List.length_append] <;> rfl
        have hl307_b : List.length m_out + List.length ([[AV.int .i64 ((y303).1.op), AV.int .i64 ((y303).1.n), AV.int .i64 ((y303).1.t)]] : List (List AV)) = List.length (m_out ++ ([(y303).1] : List OpS)) := by simp only [List.length_map, List.length_append] <;> rfl
        have hl307_c : List.length m_out + List.length ([(y303).1] : List OpS) = List.length (m_out ++ ([(y303).1] : List OpS)) := by simp only [List.length_map, List.length_append] <;> rfl
        first | simp only [hp306, hl307] | (simp only [List.length_map, take_map_len]; simp only [hp306, hl307_b, hl307_c])
        try simp only [ls]
        conv => lhs; whnf
        have hq := Option.some.inj hm; clear hm; subst hq
        try simp only [ls]
        exact fq (y := some (AV.int .i64 (IntKind.i64.wrap (v1_i + 1)), [Ob.var 87 [AV.sl 5 (List.map c_api_Node (m_l)), AV.func 33 [] [AV.ptr 1 0, AV.ptr 2 0], AV.row 3 (List.length ((m_out ++ ([(y303).1] : List OpS)))), AV.bool ((y303).2)], Ob.var 23 [AV.sl 1 (List.map encS (o1))], Ob.var 28 [AV.int .i64 (o2_Mod), AV.sl 3 (List.map c_api_Var (o2_Locs)), AV.sl 4 (List.map c_api_Thread (o2_Threads)), AV.sl 3 (List.map c_api_Claim (o2_Claims))], Ob.row 53 3 (List.map encOp (m_out ++ ([(y303).1] : List OpS)))]))
      · simp only [hc305, ls]
        conv => lhs; whnf
        refine chk_some2 hm ?_; clear hm; intro hc311 hm
        refine bif_pos (app_row hc311 (by first | rfl | simp only [List.length_map]) (by first | rfl | simp only [List.length_map]) (by first | rfl | simp only [List.length_map, take_map_len]) (by kernel_rfl)) ?_
        try simp only [lt]
        have hp309 : (List.map encOp (m_out) : List (List AV)) ++ [[AV.int .i64 ((y303).1.op), AV.int .i64 ((y303).1.n), AV.int .i64 ((y303).1.t)]] = List.map encOp (m_out ++ ([(y303).1] : List OpS)) := by first | rfl | (rw [List.map_append]; rfl) | (rw [List.map_append]; done) | (simp only [List.map_append, List.map_cons, List.map_nil, List.nil_append, encOp] <;> rfl)
        have hl310 : List.length (List.map encOp (m_out) : List (List AV)) + List.length ([[AV.int .i64 ((y303).1.op), AV.int .i64 ((y303).1.n), AV.int .i64 ((y303).1.t)]] : List (List AV)) = List.length (m_out ++ ([(y303).1] : List OpS)) := by simp only [List.length_map, List.length_append] <;> rfl
        have hl310_b : List.length m_out + List.length ([[AV.int .i64 ((y303).1.op), AV.int .i64 ((y303).1.n), AV.int .i64 ((y303).1.t)]] : List (List AV)) = List.length (m_out ++ ([(y303).1] : List OpS)) := by simp only [List.length_map, List.length_append] <;> rfl
        have hl310_c : List.length m_out + List.length ([(y303).1] : List OpS) = List.length (m_out ++ ([(y303).1] : List OpS)) := by simp only [List.length_map, List.length_append] <;> rfl
        first | simp only [hp309, hl310] | (simp only [List.length_map, take_map_len]; simp only [hp309, hl310_b, hl310_c])
        try simp only [ls]
        conv => lhs; whnf
        have hq := Option.some.inj hm; clear hm; subst hq
        try simp only [ls]
        exact fq (y := some (AV.int .i64 (IntKind.i64.wrap (v1_i + 1)), [Ob.var 87 [AV.sl 5 (List.map c_api_Node (m_l)), AV.func 33 [] [AV.ptr 1 0, AV.ptr 2 0], AV.row 3 (List.length ((m_out ++ ([(y303).1] : List OpS)))), AV.bool (false)], Ob.var 23 [AV.sl 1 (List.map encS (o1))], Ob.var 28 [AV.int .i64 (o2_Mod), AV.sl 3 (List.map c_api_Var (o2_Locs)), AV.sl 4 (List.map c_api_Thread (o2_Threads)), AV.sl 3 (List.map c_api_Claim (o2_Claims))], Ob.row 53 3 (List.map encOp (m_out ++ ([(y303).1] : List OpS)))]))
  | c9 y13 =>
    dsimp only at hm
    have hk3 : call false 37 [AV.int .i64 (x1.f_Op)] [] = some (AV.tup [AV.agg [AV.int .i64 ((y13).1), AV.func 51 [] []], AV.bool ((y13).2)], []) := (hc _ _ _).trans (ok_code_of n x1.f_Op (.c9 y13) hy2)
    try simp only [List.drop_zero, ls]
    first | simp only [hk3] | rewrite [hk3]
    try simp only [ls]
    conv => lhs; whnf
    refine bif_or2 hm ?_ ?_ <;> clear hm <;> intro hc312 hm
    · simp only [hc312, ls]
      conv => lhs; whnf
      refine bind_some2 hm ?_; clear hm; intro o324 ho324 hm
      refine rounds_sim (σ := (Int × Int × Bool × (List OpS))) (τ := (Int × Bool × (List OpS))) (ν := (Int × (List OpS) × Bool)) 0 (fun (s313, s314, s315, s316) a318 => stOf 80 [(0, AV.ptr 0 0), (5, AV.ptr 4 0), (10, AV.int .i64 (s313)), (60, AV.int .i64 ((y13).1)), (61, AV.int .i64 (s314))]) (fun (s313, s314, s315, s316) a318 => [Ob.var 87 [AV.sl 5 (List.map c_api_Node (m_l)), AV.func 33 [] [AV.ptr 1 0, AV.ptr 2 0], AV.row 3 (List.length (s316)), AV.bool (s315)], Ob.var 23 [AV.sl 1 (List.map encS (o1))], Ob.var 28 [AV.int .i64 (o2_Mod), AV.sl 3 (List.map c_api_Var (o2_Locs)), AV.sl 4 (List.map c_api_Thread (o2_Threads)), AV.sl 3 (List.map c_api_Claim (o2_Claims))], Ob.row 53 3 (List.map encOp (s316)), Ob.var 57 [AV.int .i64 (x1.f_Op), AV.int .i64 (x1.f_N), AV.str (x1.f_Name), AV.str (x1.f_In), AV.int .i64 (x1.f_At)], Ob.var 74 [AV.int .i64 ((y13).1), AV.func 51 [] []]]) (fun (x329, x330, x331) a328 => stOf 80 [(0, AV.ptr 0 0), (5, AV.ptr 4 0), (10, AV.int .i64 (x329))]) (fun (x329, x330, x331) a328 => [Ob.var 87 [AV.sl 5 (List.map c_api_Node (m_l)), AV.func 33 [] [AV.ptr 1 0, AV.ptr 2 0], AV.row 3 (List.length (x331)), AV.bool (x330)], Ob.var 23 [AV.sl 1 (List.map encS (o1))], Ob.var 28 [AV.int .i64 (o2_Mod), AV.sl 3 (List.map c_api_Var (o2_Locs)), AV.sl 4 (List.map c_api_Thread (o2_Threads)), AV.sl 3 (List.map c_api_Claim (o2_Claims))], Ob.row 53 3 (List.map encOp (x331)), Ob.var 57 [AV.int .i64 (x1.f_Op), AV.int .i64 (x1.f_N), AV.str (x1.f_Name), AV.str (x1.f_In), AV.int .i64 (x1.f_At)], Ob.var 74 [AV.int .i64 ((y13).1), AV.func 51 [] []]]) (fun v => (AV.int .i64 ((v).1), [Ob.var 87 [AV.sl 5 (List.map c_api_Node (m_l)), AV.func 33 [] [AV.ptr 1 0, AV.ptr 2 0], AV.row 3 (List.length ((v).2.1)), AV.bool ((v).2.2)], Ob.var 23 [AV.sl 1 (List.map encS (o1))], Ob.var 28 [AV.int .i64 (o2_Mod), AV.sl 3 (List.map c_api_Var (o2_Locs)), AV.sl 4 (List.map c_api_Thread (o2_Threads)), AV.sl 3 (List.map c_api_Claim (o2_Claims))], Ob.row 53 3 (List.map encOp ((v).2.1))])) (fun k s => code_maker_node_1_L9 n (m_code_maker_node_1 n) m_l o1 o2_Mod o2_Locs o2_Threads o2_Claims y13 k ((s).1) ((s).2.1) ((s).2.2.1) ((s).2.2.2)) (fun s => rfl) o324 ?_ n (IntKind.i64.wrap (v1_i + 1), 0, m_ok, m_out) (fun _ => 0) _ _ ho324 ?_ (by first | rfl | (simp only [ls, List.map_append, List.map_cons, List.map_nil, List.append_nil, List.length_set, length_copyL] <;> rfl)) (by first | rfl | (simp only [ls, List.map_append, List.map_cons, List.map_nil, List.append_nil, List.length_set, length_copyL] <;> rfl))
      · intro k317 ss a318 K319 cont320 hK321 hcont322 hm hr323
        obtain ⟨s313, s314, s315, s316⟩ := ss
        replace hm : code_maker_node_1_L9 n (m_code_maker_node_1 n) m_l o1 o2_Mod o2_Locs o2_Threads o2_Claims y13 (k317 + 1) s313 s314 s315 s316 = some o324 := hm
        rw [code_maker_node_1_L9] at hm
        conv => lhs; whnf
        refine bif_or2 hm ?_ ?_ <;> clear hm <;> intro hc325 hm
        · simp only [hc325, ls]
          conv => lhs; whnf
          refine bind_some2 hm ?_; clear hm; intro y326 hy326 hm
          have hk327 : call false 45 [AV.ptr 0 0, AV.int .i64 (s313)] [Ob.var 87 [AV.sl 5 (List.map c_api_Node (m_l)), AV.func 33 [] [AV.ptr 1 0, AV.ptr 2 0], AV.row 3 (List.length (s316)), AV.bool (s315)], Ob.var 23 [AV.sl 1 (List.map encS (o1))], Ob.var 28 [AV.int .i64 (o2_Mod), AV.sl 3 (List.map c_api_Var (o2_Locs)), AV.sl 4 (List.map c_api_Thread (o2_Threads)), AV.sl 3 (List.map c_api_Claim (o2_Claims))], Ob.row 53 3 (List.map encOp (s316))] = some (AV.int .i64 ((y326).1), [Ob.var 87 [AV.sl 5 (List.map c_api_Node (m_l)), AV.func 33 [] [AV.ptr 1 0, AV.ptr 2 0], AV.row 3 (List.length ((y326).2.1)), AV.bool ((y326).2.2)], Ob.var 23 [AV.sl 1 (List.map encS (o1))], Ob.var 28 [AV.int .i64 (o2_Mod), AV.sl 3 (List.map c_api_Var (o2_Locs)), AV.sl 4 (List.map c_api_Thread (o2_Threads)), AV.sl 3 (List.map c_api_Claim (o2_Claims))], Ob.row 53 3 (List.map encOp ((y326).2.1))]) := (hc _ _ _).trans (ih_code_maker_node_1 s313 m_l s316 s315 o1 o2_Mod o2_Locs o2_Threads o2_Claims y326 hy326)
          try simp only [List.drop_zero, ls]
          first | simp only [hk327] | rewrite [hk327]
          try simp only [ls]
          conv => lhs; whnf
          exact cq (hcont322 ((y326).1, IntKind.i64.wrap (s314 + 1), (y326).2.2, (y326).2.1) (fun _ => 0) hm)
        · simp only [hc325, ls]
          conv => lhs; whnf
          have hq := Option.some.inj hm; clear hm; subst hq
          exact kq (hr323 (fun _ => 0))
      · cases o324 with
        | ret v =>
          have hq := Option.some.inj hm; clear hm; subst hq
          rfl
        | out t =>
          obtain ⟨x329, x330, x331⟩ := t
          intro a328
          dsimp only at hm
          conv => lhs; whnf
          refine chk_some2 hm ?_; clear hm; intro hc334 hm
          refine bif_pos (app_row hc334 (by first | rfl | simp only [List.length_map]) (by first | rfl | simp only [List.length_map]) (by first | rfl | simp only [List.length_map, take_map_len]) (by kernel_rfl)) ?_
          try simp only [lt]
          have hp332 : (List.map encOp (x331) : List (List AV)) ++ [[AV.int .i64 (x1.f_Op), AV.int .i64 (0), AV.int .i64 (0)]] = List.map encOp (x331 ++ ([(⟨x1.f_Op, 0, 0⟩ : OpS)] : List OpS)) := by first | rfl | (rw [List.map_append]; rfl) | (rw [List.map_append]; done) | (simp only [List.map_append, List.map_cons, List.map_nil, List.nil_append, encOp] <;> rfl)
          have hl333 : List.length (List.map encOp (x331) : List (List AV)) + List.length ([[AV.int .i64 (x1.f_Op), AV.int .i64 (0), AV.int .i64 (0)]] : List (List AV)) = List.length (x331 ++ ([(⟨x1.f_Op, 0, 0⟩ : OpS)] : List OpS)) := by simp only [List.length_map, List.length_append] <;> rfl
          have hl333_b : List.length x331 + List.length ([[AV.int .i64 (x1.f_Op), AV.int .i64 (0), AV.int .i64 (0)]] : List (List AV)) = List.length (x331 ++ ([(⟨x1.f_Op, 0, 0⟩ : OpS)] : List OpS)) := by simp only [List.length_map, List.length_append] <;> rfl
          have hl333_c : List.length x331 + List.length ([(⟨x1.f_Op, 0, 0⟩ : OpS)] : List OpS) = List.length (x331 ++ ([(⟨x1.f_Op, 0, 0⟩ : OpS)] : List OpS)) := by simp only [List.length_map, List.length_append] <;> rfl
          first | simp only [hp332, hl333] | (simp only [List.length_map, take_map_len]; simp only [hp332, hl333_b, hl333_c])
          try simp only [ls]
          conv => lhs; whnf
          have hq := Option.some.inj hm; clear hm; subst hq
          try simp only [ls]
          exact fq (y := some (AV.int .i64 (x329), [Ob.var 87 [AV.sl 5 (List.map c_api_Node (m_l)), AV.func 33 [] [AV.ptr 1 0, AV.ptr 2 0], AV.row 3 (List.length ((x331 ++ ([(⟨x1.f_Op, 0, 0⟩ : OpS)] : List OpS)))), AV.bool (x330)], Ob.var 23 [AV.sl 1 (List.map encS (o1))], Ob.var 28 [AV.int .i64 (o2_Mod), AV.sl 3 (List.map c_api_Var (o2_Locs)), AV.sl 4 (List.map c_api_Thread (o2_Threads)), AV.sl 3 (List.map c_api_Claim (o2_Claims))], Ob.row 53 3 (List.map encOp (x331 ++ ([(⟨x1.f_Op, 0, 0⟩ : OpS)] : List OpS)))]))
    · simp only [hc312, ls]
      conv => lhs; whnf
      refine bind_some2 hm ?_; clear hm; intro y336 hy336 hm
      have hk337 : call false 33 [AV.agg [AV.int .i64 (x1.f_Op), AV.int .i64 (x1.f_N), AV.str (x1.f_Name), AV.str (x1.f_In), AV.int .i64 (x1.f_At)], AV.ptr 0 0, AV.ptr 1 0] [Ob.var 23 [AV.sl 1 (List.map encS (o1))], Ob.var 28 [AV.int .i64 (o2_Mod), AV.sl 3 (List.map c_api_Var (o2_Locs)), AV.sl 4 (List.map c_api_Thread (o2_Threads)), AV.sl 3 (List.map c_api_Claim (o2_Claims))]] = some (AV.tup [AV.agg [AV.int .i64 ((y336).1.op), AV.int .i64 ((y336).1.n), AV.int .i64 ((y336).1.t)], AV.bool ((y336).2)], [Ob.var 23 [AV.sl 1 (List.map encS (o1))], Ob.var 28 [AV.int .i64 (o2_Mod), AV.sl 3 (List.map c_api_Var (o2_Locs)), AV.sl 4 (List.map c_api_Thread (o2_Threads)), AV.sl 3 (List.map c_api_Claim (o2_Claims))]]) := (hc _ _ _).trans (ok_code_Claim_1 n x1 o1 o2_Mod o2_Locs o2_Threads o2_Claims y336 hy336)
      try simp only [List.drop_zero, ls]
      first | simp only [hk337] | rewrite [hk337]
      try simp only [ls]
      conv => lhs; whnf
      refine bif_or2 hm ?_ ?_ <;> clear hm <;> intro hc338 hm
      · simp only [hc338, ls]
        conv => lhs; whnf
        refine chk_some2 hm ?_; clear hm; intro hc341 hm
        refine bif_pos (app_row hc341 (by first | rfl | simp only [List.length_map]) (by first | rfl | simp only [List.length_map]) (by first | rfl | simp only [List.length_map, take_map_len]) (by kernel_rfl)) ?_
        try simp only [lt]
        have hp339 : (List.map encOp (m_out) : List (List AV)) ++ [[AV.int .i64 ((y336).1.op), AV.int .i64 ((y336).1.n), AV.int .i64 ((y336).1.t)]] = List.map encOp (m_out ++ ([(y336).1] : List OpS)) := by first | rfl | (rw [List.map_append]; rfl) | (rw [List.map_append]; done) | (simp only [List.map_append, List.map_cons, List.map_nil, List.nil_append, encOp] <;> rfl)
        have hl340 : List.length (List.map encOp (m_out) : List (List AV)) + List.length ([[AV.int .i64 ((y336).1.op), AV.int .i64 ((y336).1.n), AV.int .i64 ((y336).1.t)]] : List (List AV)) = List.length (m_out ++ ([(y336).1] : List OpS)) := by simp only [List.length_map, List.length_append] <;> rfl
        have hl340_b : List.length m_out + List.length ([[AV.int .i64 ((y336).1.op), AV.int .i64 ((y336).1.n), AV.int .i64 ((y336).1.t)]] : List (List AV)) = List.length (m_out ++ ([(y336).1] : List OpS)) := by simp only [List.length_map, List.length_append] <;> rfl
        have hl340_c : List.length m_out + List.length ([(y336).1] : List OpS) = List.length (m_out ++ ([(y336).1] : List OpS)) := by simp only [List.length_map, List.length_append] <;> rfl
        first | simp only [hp339, hl340] | (simp only [List.length_map, take_map_len]; simp only [hp339, hl340_b, hl340_c])
        try simp only [ls]
        conv => lhs; whnf
        have hq := Option.some.inj hm; clear hm; subst hq
        try simp only [ls]
        exact fq (y := some (AV.int .i64 (IntKind.i64.wrap (v1_i + 1)), [Ob.var 87 [AV.sl 5 (List.map c_api_Node (m_l)), AV.func 33 [] [AV.ptr 1 0, AV.ptr 2 0], AV.row 3 (List.length ((m_out ++ ([(y336).1] : List OpS)))), AV.bool ((y336).2)], Ob.var 23 [AV.sl 1 (List.map encS (o1))], Ob.var 28 [AV.int .i64 (o2_Mod), AV.sl 3 (List.map c_api_Var (o2_Locs)), AV.sl 4 (List.map c_api_Thread (o2_Threads)), AV.sl 3 (List.map c_api_Claim (o2_Claims))], Ob.row 53 3 (List.map encOp (m_out ++ ([(y336).1] : List OpS)))]))
      · simp only [hc338, ls]
        conv => lhs; whnf
        refine chk_some2 hm ?_; clear hm; intro hc344 hm
        refine bif_pos (app_row hc344 (by first | rfl | simp only [List.length_map]) (by first | rfl | simp only [List.length_map]) (by first | rfl | simp only [List.length_map, take_map_len]) (by kernel_rfl)) ?_
        try simp only [lt]
        have hp342 : (List.map encOp (m_out) : List (List AV)) ++ [[AV.int .i64 ((y336).1.op), AV.int .i64 ((y336).1.n), AV.int .i64 ((y336).1.t)]] = List.map encOp (m_out ++ ([(y336).1] : List OpS)) := by first | rfl | (rw [List.map_append]; rfl) | (rw [List.map_append]; done) | (simp only [List.map_append, List.map_cons, List.map_nil, List.nil_append, encOp] <;> rfl)
        have hl343 : List.length (List.map encOp (m_out) : List (List AV)) + List.length ([[AV.int .i64 ((y336).1.op), AV.int .i64 ((y336).1.n), AV.int .i64 ((y336).1.t)]] : List (List AV)) = List.length (m_out ++ ([(y336).1] : List OpS)) := by simp only [List.length_map, List.length_append] <;> rfl
        have hl343_b : List.length m_out + List.length ([[AV.int .i64 ((y336).1.op), AV.int .i64 ((y336).1.n), AV.int .i64 ((y336).1.t)]] : List (List AV)) = List.length (m_out ++ ([(y336).1] : List OpS)) := by simp only [List.length_map, List.length_append] <;> rfl
        have hl343_c : List.length m_out + List.length ([(y336).1] : List OpS) = List.length (m_out ++ ([(y336).1] : List OpS)) := by simp only [List.length_map, List.length_append] <;> rfl
        first | simp only [hp342, hl343] | (simp only [List.length_map, take_map_len]; simp only [hp342, hl343_b, hl343_c])
        try simp only [ls]
        conv => lhs; whnf
        have hq := Option.some.inj hm; clear hm; subst hq
        try simp only [ls]
        exact fq (y := some (AV.int .i64 (IntKind.i64.wrap (v1_i + 1)), [Ob.var 87 [AV.sl 5 (List.map c_api_Node (m_l)), AV.func 33 [] [AV.ptr 1 0, AV.ptr 2 0], AV.row 3 (List.length ((m_out ++ ([(y336).1] : List OpS)))), AV.bool (false)], Ob.var 23 [AV.sl 1 (List.map encS (o1))], Ob.var 28 [AV.int .i64 (o2_Mod), AV.sl 3 (List.map c_api_Var (o2_Locs)), AV.sl 4 (List.map c_api_Thread (o2_Threads)), AV.sl 3 (List.map c_api_Claim (o2_Claims))], Ob.row 53 3 (List.map encOp (m_out ++ ([(y336).1] : List OpS)))]))
  | c10 y14 =>
    dsimp only at hm
    have hk3 : call false 37 [AV.int .i64 (x1.f_Op)] [] = some (AV.tup [AV.agg [AV.int .i64 ((y14).1), AV.func 49 [] []], AV.bool ((y14).2)], []) := (hc _ _ _).trans (ok_code_of n x1.f_Op (.c10 y14) hy2)
    try simp only [List.drop_zero, ls]
    first | simp only [hk3] | rewrite [hk3]
    try simp only [ls]
    conv => lhs; whnf
    refine bif_or2 hm ?_ ?_ <;> clear hm <;> intro hc345 hm
    · simp only [hc345, ls]
      conv => lhs; whnf
      refine bind_some2 hm ?_; clear hm; intro o357 ho357 hm
      refine rounds_sim (σ := (Int × Int × Bool × (List OpS))) (τ := (Int × Bool × (List OpS))) (ν := (Int × (List OpS) × Bool)) 0 (fun (s346, s347, s348, s349) a351 => stOf 80 [(0, AV.ptr 0 0), (5, AV.ptr 4 0), (10, AV.int .i64 (s346)), (60, AV.int .i64 ((y14).1)), (61, AV.int .i64 (s347))]) (fun (s346, s347, s348, s349) a351 => [Ob.var 87 [AV.sl 5 (List.map c_api_Node (m_l)), AV.func 33 [] [AV.ptr 1 0, AV.ptr 2 0], AV.row 3 (List.length (s349)), AV.bool (s348)], Ob.var 23 [AV.sl 1 (List.map encS (o1))], Ob.var 28 [AV.int .i64 (o2_Mod), AV.sl 3 (List.map c_api_Var (o2_Locs)), AV.sl 4 (List.map c_api_Thread (o2_Threads)), AV.sl 3 (List.map c_api_Claim (o2_Claims))], Ob.row 53 3 (List.map encOp (s349)), Ob.var 57 [AV.int .i64 (x1.f_Op), AV.int .i64 (x1.f_N), AV.str (x1.f_Name), AV.str (x1.f_In), AV.int .i64 (x1.f_At)], Ob.var 74 [AV.int .i64 ((y14).1), AV.func 49 [] []]]) (fun (x362, x363, x364) a361 => stOf 80 [(0, AV.ptr 0 0), (5, AV.ptr 4 0), (10, AV.int .i64 (x362))]) (fun (x362, x363, x364) a361 => [Ob.var 87 [AV.sl 5 (List.map c_api_Node (m_l)), AV.func 33 [] [AV.ptr 1 0, AV.ptr 2 0], AV.row 3 (List.length (x364)), AV.bool (x363)], Ob.var 23 [AV.sl 1 (List.map encS (o1))], Ob.var 28 [AV.int .i64 (o2_Mod), AV.sl 3 (List.map c_api_Var (o2_Locs)), AV.sl 4 (List.map c_api_Thread (o2_Threads)), AV.sl 3 (List.map c_api_Claim (o2_Claims))], Ob.row 53 3 (List.map encOp (x364)), Ob.var 57 [AV.int .i64 (x1.f_Op), AV.int .i64 (x1.f_N), AV.str (x1.f_Name), AV.str (x1.f_In), AV.int .i64 (x1.f_At)], Ob.var 74 [AV.int .i64 ((y14).1), AV.func 49 [] []]]) (fun v => (AV.int .i64 ((v).1), [Ob.var 87 [AV.sl 5 (List.map c_api_Node (m_l)), AV.func 33 [] [AV.ptr 1 0, AV.ptr 2 0], AV.row 3 (List.length ((v).2.1)), AV.bool ((v).2.2)], Ob.var 23 [AV.sl 1 (List.map encS (o1))], Ob.var 28 [AV.int .i64 (o2_Mod), AV.sl 3 (List.map c_api_Var (o2_Locs)), AV.sl 4 (List.map c_api_Thread (o2_Threads)), AV.sl 3 (List.map c_api_Claim (o2_Claims))], Ob.row 53 3 (List.map encOp ((v).2.1))])) (fun k s => code_maker_node_1_L10 n (m_code_maker_node_1 n) m_l o1 o2_Mod o2_Locs o2_Threads o2_Claims y14 k ((s).1) ((s).2.1) ((s).2.2.1) ((s).2.2.2)) (fun s => rfl) o357 ?_ n (IntKind.i64.wrap (v1_i + 1), 0, m_ok, m_out) (fun _ => 0) _ _ ho357 ?_ (by first | rfl | (simp only [ls, List.map_append, List.map_cons, List.map_nil, List.append_nil, List.length_set, length_copyL] <;> rfl)) (by first | rfl | (simp only [ls, List.map_append, List.map_cons, List.map_nil, List.append_nil, List.length_set, length_copyL] <;> rfl))
      · intro k350 ss a351 K352 cont353 hK354 hcont355 hm hr356
        obtain ⟨s346, s347, s348, s349⟩ := ss
        replace hm : code_maker_node_1_L10 n (m_code_maker_node_1 n) m_l o1 o2_Mod o2_Locs o2_Threads o2_Claims y14 (k350 + 1) s346 s347 s348 s349 = some o357 := hm
        rw [code_maker_node_1_L10] at hm
        conv => lhs; whnf
        refine bif_or2 hm ?_ ?_ <;> clear hm <;> intro hc358 hm
        · simp only [hc358, ls]
          conv => lhs; whnf
          refine bind_some2 hm ?_; clear hm; intro y359 hy359 hm
          have hk360 : call false 45 [AV.ptr 0 0, AV.int .i64 (s346)] [Ob.var 87 [AV.sl 5 (List.map c_api_Node (m_l)), AV.func 33 [] [AV.ptr 1 0, AV.ptr 2 0], AV.row 3 (List.length (s349)), AV.bool (s348)], Ob.var 23 [AV.sl 1 (List.map encS (o1))], Ob.var 28 [AV.int .i64 (o2_Mod), AV.sl 3 (List.map c_api_Var (o2_Locs)), AV.sl 4 (List.map c_api_Thread (o2_Threads)), AV.sl 3 (List.map c_api_Claim (o2_Claims))], Ob.row 53 3 (List.map encOp (s349))] = some (AV.int .i64 ((y359).1), [Ob.var 87 [AV.sl 5 (List.map c_api_Node (m_l)), AV.func 33 [] [AV.ptr 1 0, AV.ptr 2 0], AV.row 3 (List.length ((y359).2.1)), AV.bool ((y359).2.2)], Ob.var 23 [AV.sl 1 (List.map encS (o1))], Ob.var 28 [AV.int .i64 (o2_Mod), AV.sl 3 (List.map c_api_Var (o2_Locs)), AV.sl 4 (List.map c_api_Thread (o2_Threads)), AV.sl 3 (List.map c_api_Claim (o2_Claims))], Ob.row 53 3 (List.map encOp ((y359).2.1))]) := (hc _ _ _).trans (ih_code_maker_node_1 s346 m_l s349 s348 o1 o2_Mod o2_Locs o2_Threads o2_Claims y359 hy359)
          try simp only [List.drop_zero, ls]
          first | simp only [hk360] | rewrite [hk360]
          try simp only [ls]
          conv => lhs; whnf
          exact cq (hcont355 ((y359).1, IntKind.i64.wrap (s347 + 1), (y359).2.2, (y359).2.1) (fun _ => 0) hm)
        · simp only [hc358, ls]
          conv => lhs; whnf
          have hq := Option.some.inj hm; clear hm; subst hq
          exact kq (hr356 (fun _ => 0))
      · cases o357 with
        | ret v =>
          have hq := Option.some.inj hm; clear hm; subst hq
          rfl
        | out t =>
          obtain ⟨x362, x363, x364⟩ := t
          intro a361
          dsimp only at hm
          conv => lhs; whnf
          refine chk_some2 hm ?_; clear hm; intro hc367 hm
          refine bif_pos (app_row hc367 (by first | rfl | simp only [List.length_map]) (by first | rfl | simp only [List.length_map]) (by first | rfl | simp only [List.length_map, take_map_len]) (by kernel_rfl)) ?_
          try simp only [lt]
          have hp365 : (List.map encOp (x364) : List (List AV)) ++ [[AV.int .i64 (x1.f_Op), AV.int .i64 (0), AV.int .i64 (0)]] = List.map encOp (x364 ++ ([(⟨x1.f_Op, 0, 0⟩ : OpS)] : List OpS)) := by first | rfl | (rw [List.map_append]; rfl) | (rw [List.map_append]; done) | (simp only [List.map_append, List.map_cons, List.map_nil, List.nil_append, encOp] <;> rfl)
          have hl366 : List.length (List.map encOp (x364) : List (List AV)) + List.length ([[AV.int .i64 (x1.f_Op), AV.int .i64 (0), AV.int .i64 (0)]] : List (List AV)) = List.length (x364 ++ ([(⟨x1.f_Op, 0, 0⟩ : OpS)] : List OpS)) := by simp only [List.length_map, List.length_append] <;> rfl
          have hl366_b : List.length x364 + List.length ([[AV.int .i64 (x1.f_Op), AV.int .i64 (0), AV.int .i64 (0)]] : List (List AV)) = List.length (x364 ++ ([(⟨x1.f_Op, 0, 0⟩ : OpS)] : List OpS)) := by simp only [List.length_map, List.length_append] <;> rfl
          have hl366_c : List.length x364 + List.length ([(⟨x1.f_Op, 0, 0⟩ : OpS)] : List OpS) = List.length (x364 ++ ([(⟨x1.f_Op, 0, 0⟩ : OpS)] : List OpS)) := by simp only [List.length_map, List.length_append] <;> rfl
          first | simp only [hp365, hl366] | (simp only [List.length_map, take_map_len]; simp only [hp365, hl366_b, hl366_c])
          try simp only [ls]
          conv => lhs; whnf
          have hq := Option.some.inj hm; clear hm; subst hq
          try simp only [ls]
          exact fq (y := some (AV.int .i64 (x362), [Ob.var 87 [AV.sl 5 (List.map c_api_Node (m_l)), AV.func 33 [] [AV.ptr 1 0, AV.ptr 2 0], AV.row 3 (List.length ((x364 ++ ([(⟨x1.f_Op, 0, 0⟩ : OpS)] : List OpS)))), AV.bool (x363)], Ob.var 23 [AV.sl 1 (List.map encS (o1))], Ob.var 28 [AV.int .i64 (o2_Mod), AV.sl 3 (List.map c_api_Var (o2_Locs)), AV.sl 4 (List.map c_api_Thread (o2_Threads)), AV.sl 3 (List.map c_api_Claim (o2_Claims))], Ob.row 53 3 (List.map encOp (x364 ++ ([(⟨x1.f_Op, 0, 0⟩ : OpS)] : List OpS)))]))
    · simp only [hc345, ls]
      conv => lhs; whnf
      refine bind_some2 hm ?_; clear hm; intro y369 hy369 hm
      have hk370 : call false 33 [AV.agg [AV.int .i64 (x1.f_Op), AV.int .i64 (x1.f_N), AV.str (x1.f_Name), AV.str (x1.f_In), AV.int .i64 (x1.f_At)], AV.ptr 0 0, AV.ptr 1 0] [Ob.var 23 [AV.sl 1 (List.map encS (o1))], Ob.var 28 [AV.int .i64 (o2_Mod), AV.sl 3 (List.map c_api_Var (o2_Locs)), AV.sl 4 (List.map c_api_Thread (o2_Threads)), AV.sl 3 (List.map c_api_Claim (o2_Claims))]] = some (AV.tup [AV.agg [AV.int .i64 ((y369).1.op), AV.int .i64 ((y369).1.n), AV.int .i64 ((y369).1.t)], AV.bool ((y369).2)], [Ob.var 23 [AV.sl 1 (List.map encS (o1))], Ob.var 28 [AV.int .i64 (o2_Mod), AV.sl 3 (List.map c_api_Var (o2_Locs)), AV.sl 4 (List.map c_api_Thread (o2_Threads)), AV.sl 3 (List.map c_api_Claim (o2_Claims))]]) := (hc _ _ _).trans (ok_code_Claim_1 n x1 o1 o2_Mod o2_Locs o2_Threads o2_Claims y369 hy369)
      try simp only [List.drop_zero, ls]
      first | simp only [hk370] | rewrite [hk370]
      try simp only [ls]
      conv => lhs; whnf
      refine bif_or2 hm ?_ ?_ <;> clear hm <;> intro hc371 hm
      · simp only [hc371, ls]
        conv => lhs; whnf
        refine chk_some2 hm ?_; clear hm; intro hc374 hm
        refine bif_pos (app_row hc374 (by first | rfl | simp only [List.length_map]) (by first | rfl | simp only [List.length_map]) (by first | rfl | simp only [List.length_map, take_map_len]) (by kernel_rfl)) ?_
        try simp only [lt]
        have hp372 : (List.map encOp (m_out) : List (List AV)) ++ [[AV.int .i64 ((y369).1.op), AV.int .i64 ((y369).1.n), AV.int .i64 ((y369).1.t)]] = List.map encOp (m_out ++ ([(y369).1] : List OpS)) := by first | rfl | (rw [List.map_append]; rfl) | (rw [List.map_append]; done) | (simp only [List.map_append, List.map_cons, List.map_nil, List.nil_append, encOp] <;> rfl)
        have hl373 : List.length (List.map encOp (m_out) : List (List AV)) + List.length ([[AV.int .i64 ((y369).1.op), AV.int .i64 ((y369).1.n), AV.int .i64 ((y369).1.t)]] : List (List AV)) = List.length (m_out ++ ([(y369).1] : List OpS)) := by simp only [List.length_map, List.length_append] <;> rfl
        have hl373_b : List.length m_out + List.length ([[AV.int .i64 ((y369).1.op), AV.int .i64 ((y369).1.n), AV.int .i64 ((y369).1.t)]] : List (List AV)) = List.length (m_out ++ ([(y369).1] : List OpS)) := by simp only [List.length_map, List.length_append] <;> rfl
        have hl373_c : List.length m_out + List.length ([(y369).1] : List OpS) = List.length (m_out ++ ([(y369).1] : List OpS)) := by simp only [List.length_map, List.length_append] <;> rfl
        first | simp only [hp372, hl373] | (simp only [List.length_map, take_map_len]; simp only [hp372, hl373_b, hl373_c])
        try simp only [ls]
        conv => lhs; whnf
        have hq := Option.some.inj hm; clear hm; subst hq
        try simp only [ls]
        exact fq (y := some (AV.int .i64 (IntKind.i64.wrap (v1_i + 1)), [Ob.var 87 [AV.sl 5 (List.map c_api_Node (m_l)), AV.func 33 [] [AV.ptr 1 0, AV.ptr 2 0], AV.row 3 (List.length ((m_out ++ ([(y369).1] : List OpS)))), AV.bool ((y369).2)], Ob.var 23 [AV.sl 1 (List.map encS (o1))], Ob.var 28 [AV.int .i64 (o2_Mod), AV.sl 3 (List.map c_api_Var (o2_Locs)), AV.sl 4 (List.map c_api_Thread (o2_Threads)), AV.sl 3 (List.map c_api_Claim (o2_Claims))], Ob.row 53 3 (List.map encOp (m_out ++ ([(y369).1] : List OpS)))]))
      · simp only [hc371, ls]
        conv => lhs; whnf
        refine chk_some2 hm ?_; clear hm; intro hc377 hm
        refine bif_pos (app_row hc377 (by first | rfl | simp only [List.length_map]) (by first | rfl | simp only [List.length_map]) (by first | rfl | simp only [List.length_map, take_map_len]) (by kernel_rfl)) ?_
        try simp only [lt]
        have hp375 : (List.map encOp (m_out) : List (List AV)) ++ [[AV.int .i64 ((y369).1.op), AV.int .i64 ((y369).1.n), AV.int .i64 ((y369).1.t)]] = List.map encOp (m_out ++ ([(y369).1] : List OpS)) := by first | rfl | (rw [List.map_append]; rfl) | (rw [List.map_append]; done) | (simp only [List.map_append, List.map_cons, List.map_nil, List.nil_append, encOp] <;> rfl)
        have hl376 : List.length (List.map encOp (m_out) : List (List AV)) + List.length ([[AV.int .i64 ((y369).1.op), AV.int .i64 ((y369).1.n), AV.int .i64 ((y369).1.t)]] : List (List AV)) = List.length (m_out ++ ([(y369).1] : List OpS)) := by simp only [List.length_map, List.length_append] <;> rfl
        have hl376_b : List.length m_out + List.length ([[AV.int .i64 ((y369).1.op), AV.int .i64 ((y369).1.n), AV.int .i64 ((y369).1.t)]] : List (List AV)) = List.length (m_out ++ ([(y369).1] : List OpS)) := by simp only [List.length_map, List.length_append] <;> rfl
        have hl376_c : List.length m_out + List.length ([(y369).1] : List OpS) = List.length (m_out ++ ([(y369).1] : List OpS)) := by simp only [List.length_map, List.length_append] <;> rfl
        first | simp only [hp375, hl376] | (simp only [List.length_map, take_map_len]; simp only [hp375, hl376_b, hl376_c])
        try simp only [ls]
        conv => lhs; whnf
        have hq := Option.some.inj hm; clear hm; subst hq
        try simp only [ls]
        exact fq (y := some (AV.int .i64 (IntKind.i64.wrap (v1_i + 1)), [Ob.var 87 [AV.sl 5 (List.map c_api_Node (m_l)), AV.func 33 [] [AV.ptr 1 0, AV.ptr 2 0], AV.row 3 (List.length ((m_out ++ ([(y369).1] : List OpS)))), AV.bool (false)], Ob.var 23 [AV.sl 1 (List.map encS (o1))], Ob.var 28 [AV.int .i64 (o2_Mod), AV.sl 3 (List.map c_api_Var (o2_Locs)), AV.sl 4 (List.map c_api_Thread (o2_Threads)), AV.sl 3 (List.map c_api_Claim (o2_Claims))], Ob.row 53 3 (List.map encOp (m_out ++ ([(y369).1] : List OpS)))]))
theorem all_code_maker_node_1 (n : Nat) : OK_code_maker_node_1 n := by
  induction n with
  | zero => refine ?_ <;> (unfold OK_code_maker_node_1; intros; rename_i hm; exact absurd hm (by intro h; cases h))
  | succ n ih =>
    exact st_code_maker_node_1 n ih
theorem ok_code_maker_node_1 (n : Nat) : OK_code_maker_node_1 n := all_code_maker_node_1 n
end Go.Proofs.Ytmnnkeejgkhgpaa
end

section
namespace Go.Proofs.Ytmnnkeejgkhgpaa
set_option linter.unusedVariables false
set_option linter.unusedSimpArgs false
set_option maxRecDepth 100000

set_option maxHeartbeats 4000000 in
theorem ok_expr_kids (n : Nat) : ∀ (v0_op : Int) (r : Int), m_expr_kids n v0_op = some r → callN Try.prog HH XT n 65 [AV.int .i64 (v0_op)] [] = some (AV.int .i64 (r), []) := by
  cases n with
  | zero => intro v0_op r hm; exact absurd hm (by intro h; cases h)
  | succ n =>
    intro v0_op r hm
    rw [m_expr_kids] at hm
    refine callN_eq' Try.func65 (by rfl) rfl rfl (Nat.le_of_ble_eq_true rfl) ?_
    intro call hc
    conv => lhs; whnf
    refine bif_or2 hm ?_ ?_ <;> clear hm <;> intro hc1 hm
    · simp only [hc1, ls]
      conv => lhs; whnf
      refine bif_or2 hm ?_ ?_ <;> clear hm <;> intro hc2 hm
      · simp only [hc2, ls]
        conv => lhs; whnf
        have hq := Option.some.inj hm; clear hm; subst hq
        try simp only [ls]
        exact fq (y := some (AV.int .i64 (0), []))
      · simp only [hc2, ls]
        conv => lhs; whnf
        refine bif_or2 hm ?_ ?_ <;> clear hm <;> intro hc3 hm
        · simp only [hc3, ls]
          conv => lhs; whnf
          have hq := Option.some.inj hm; clear hm; subst hq
          try simp only [ls]
          exact fq (y := some (AV.int .i64 (1), []))
        · simp only [hc3, ls]
          conv => lhs; whnf
          refine bif_or2 hm ?_ ?_ <;> clear hm <;> intro hc4 hm
          · simp only [hc4, ls]
            conv => lhs; whnf
            refine bif_or2 hm ?_ ?_ <;> clear hm <;> intro hc5 hm
            · simp only [hc5, ls]
              conv => lhs; whnf
              have hq := Option.some.inj hm; clear hm; subst hq
              try simp only [ls]
              exact fq (y := some (AV.int .i64 (2), []))
            · simp only [hc5, ls]
              conv => lhs; whnf
              have hq := Option.some.inj hm; clear hm; subst hq
              try simp only [ls]
              exact fq (y := some (AV.int .i64 ((-1)), []))
          · simp only [hc4, ls]
            conv => lhs; whnf
            have hq := Option.some.inj hm; clear hm; subst hq
            try simp only [ls]
            exact fq (y := some (AV.int .i64 ((-1)), []))
    · simp only [hc1, ls]
      conv => lhs; whnf
      refine bif_or2 hm ?_ ?_ <;> clear hm <;> intro hc6 hm
      · simp only [hc6, ls]
        conv => lhs; whnf
        have hq := Option.some.inj hm; clear hm; subst hq
        try simp only [ls]
        exact fq (y := some (AV.int .i64 (1), []))
      · simp only [hc6, ls]
        conv => lhs; whnf
        refine bif_or2 hm ?_ ?_ <;> clear hm <;> intro hc7 hm
        · simp only [hc7, ls]
          conv => lhs; whnf
          refine bif_or2 hm ?_ ?_ <;> clear hm <;> intro hc8 hm
          · simp only [hc8, ls]
            conv => lhs; whnf
            have hq := Option.some.inj hm; clear hm; subst hq
            try simp only [ls]
            exact fq (y := some (AV.int .i64 (2), []))
          · simp only [hc8, ls]
            conv => lhs; whnf
            have hq := Option.some.inj hm; clear hm; subst hq
            try simp only [ls]
            exact fq (y := some (AV.int .i64 ((-1)), []))
        · simp only [hc7, ls]
          conv => lhs; whnf
          have hq := Option.some.inj hm; clear hm; subst hq
          try simp only [ls]
          exact fq (y := some (AV.int .i64 ((-1)), []))

set_option maxHeartbeats 4000000 in
theorem ok_expr_End (n : Nat) : ∀ (v0_l : (List S_api_Node)) (v1_i : Int) (r : Int), m_expr_End n v0_l v1_i = some r → callN Try.prog HH XT n 60 [AV.sl 5 (List.map c_api_Node (v0_l)), AV.int .i64 (v1_i)] [] = some (AV.int .i64 (r), []) := by
  cases n with
  | zero => intro v0_l v1_i r hm; exact absurd hm (by intro h; cases h)
  | succ n =>
    intro v0_l v1_i r hm
    rw [m_expr_End] at hm
    refine callN_eq' Try.func60 (by rfl) rfl rfl (Nat.le_of_ble_eq_true rfl) ?_
    intro call hc
    conv => lhs; whnf
    refine bif_or2 hm ?_ ?_ <;> clear hm <;> intro hc1 hm
    · simp only [hc1, ls]
      conv => lhs; whnf
      have hq := Option.some.inj hm; clear hm; subst hq
      try simp only [ls]
      exact fq (y := some (AV.int .i64 ((-1)), []))
    · simp only [hc1, ls]
      conv => lhs; whnf
      refine bind_some2 hm ?_; clear hm; intro o11 ho11 hm
      refine rounds_sim (σ := (Int × Int)) (τ := Unit) (ν := Int) 0 (fun (s2, s3) a5 => stOf 31 [(0, AV.sl 5 (List.map c_api_Node (v0_l))), (1, AV.int .i64 (s2)), (5, AV.int .i64 (s3))]) (fun (s2, s3) a5 => []) (fun _ a18 => stOf 31 []) (fun _ a18 => []) (fun v => (AV.int .i64 (v), [])) (fun k s => expr_End_L0 n v0_l k ((s).1) ((s).2)) (fun s => rfl) o11 ?_ n (v1_i, 1) (fun _ => 0) _ _ ho11 ?_ (by first | rfl | (simp only [ls, List.map_append, List.map_cons, List.map_nil, List.append_nil, List.length_set, length_copyL] <;> rfl)) (by first | rfl | (simp only [ls, List.map_append, List.map_cons, List.map_nil, List.append_nil, List.length_set, length_copyL] <;> rfl))
      · intro k4 ss a5 K6 cont7 hK8 hcont9 hm hr10
        obtain ⟨s2, s3⟩ := ss
        replace hm : expr_End_L0 n v0_l (k4 + 1) s2 s3 = some o11 := hm
        rw [expr_End_L0] at hm
        conv => lhs; whnf
        refine bif_or2 hm ?_ ?_ <;> clear hm <;> intro hc12 hm
        · simp only [hc12, ls]
          conv => lhs; whnf
          refine bind_some2 hm ?_; clear hm; intro x13 hx13 hm
          refine bif_pos (by first | exact idx_in hx13 | exact idx_in' hx13) ?_
          simp only [idx_nth (f := c_api_Node) hx13, ls]
          conv => lhs; whnf
          refine bind_some2 hm ?_; clear hm; intro y14 hy14 hm
          have hk15 : call false 65 [AV.int .i64 (x13.f_Op)] [] = some (AV.int .i64 (y14), []) := (hc _ _ _).trans (ok_expr_kids n x13.f_Op y14 hy14)
          try simp only [List.drop_zero, ls]
          first | simp only [hk15] | rewrite [hk15]
          try simp only [ls]
          conv => lhs; whnf
          refine bif_or2 hm ?_ ?_ <;> clear hm <;> intro hc16 hm
          · simp only [hc16, ls]
            conv => lhs; whnf
            have hq := Option.some.inj hm; clear hm; subst hq
            refine (hK8 _ _).trans ?_
            refine Eq.trans ?_ (Eq.symm (show _ = some _ from hr10))
            conv => lhs; whnf
            try simp only [ls]
            exact fq (y := some (AV.int .i64 ((-1)), []))
          · simp only [hc16, ls]
            conv => lhs; whnf
            refine bif_or2 hm ?_ ?_ <;> clear hm <;> intro hc17 hm
            · simp only [hc17, ls]
              conv => lhs; whnf
              have hq := Option.some.inj hm; clear hm; subst hq
              refine (hK8 _ _).trans ?_
              refine Eq.trans ?_ (Eq.symm (show _ = some _ from hr10))
              conv => lhs; whnf
              try simp only [ls]
              exact fq (y := some (AV.int .i64 (IntKind.i64.wrap (s2 + 1)), []))
            · simp only [hc17, ls]
              conv => lhs; whnf
              exact cq (hcont9 (IntKind.i64.wrap (s2 + 1), IntKind.i64.wrap (s3 + (IntKind.i64.wrap (y14 - 1)))) (fun _ => 0) hm)
        · simp only [hc12, ls]
          conv => lhs; whnf
          have hq := Option.some.inj hm; clear hm; subst hq
          exact kq (hr10 (fun _ => 0))
      · cases o11 with
        | ret v =>
          have hq := Option.some.inj hm; clear hm; subst hq
          rfl
        | out t =>
          intro a18
          dsimp only at hm
          conv => lhs; whnf
          have hq := Option.some.inj hm; clear hm; subst hq
          try simp only [ls]
          exact fq (y := some (AV.int .i64 ((-1)), []))

set_option maxHeartbeats 4000000 in
theorem ok_expr_depth (n : Nat) : ∀ (v0_l : (List S_api_Node)) (r : Int), m_expr_depth n v0_l = some r → callN Try.prog HH XT n 62 [AV.sl 5 (List.map c_api_Node (v0_l))] [] = some (AV.int .i64 (r), []) := by
  cases n with
  | zero => intro v0_l r hm; exact absurd hm (by intro h; cases h)
  | succ n =>
    intro v0_l r hm
    rw [m_expr_depth] at hm
    refine callN_eq' Try.func62 (by rfl) rfl rfl (Nat.le_of_ble_eq_true rfl) ?_
    intro call hc
    conv => lhs; whnf
    refine bind_some2 hm ?_; clear hm; intro o11 ho11 hm
    refine rounds_sim (σ := (Int × Int × (List Int))) (τ := (Int × (List Int))) (ν := Int) 0 (fun (s1, s2, s3) a5 => stOf 50 [(3, AV.stk 0 (a5 0) (List.length (s3))), (4, AV.int .i64 (s1)), (9, AV.sl 5 (List.map c_api_Node (v0_l))), (10, AV.int .i64 ((((v0_l).length : Nat) : Int))), (11, AV.int .i64 (s2))]) (fun (s1, s2, s3) a5 => [Ob.stk (a5 0) 3 1 (List.map encI (s3))]) (fun (x41, x42) a40 => stOf 50 [(4, AV.int .i64 (x41))]) (fun (x41, x42) a40 => [Ob.stk (a40 0) 3 1 (List.map encI (x42))]) (fun v => (AV.int .i64 (v), [])) (fun k s => expr_depth_L0 n v0_l k ((s).1) ((s).2.1) ((s).2.2)) (fun s => rfl) o11 ?_ n (0, 0, ([] : List Int)) (fun j => (bif Nat.beq j 0 then 0 else 0)) _ _ ho11 ?_ (by first | rfl | (simp only [ls, List.map_append, List.map_cons, List.map_nil, List.append_nil, List.length_set, length_copyL] <;> rfl)) (by first | rfl | (simp only [ls, List.map_append, List.map_cons, List.map_nil, List.append_nil, List.length_set, length_copyL] <;> rfl))
    · intro k4 ss a5 K6 cont7 hK8 hcont9 hm hr10
      obtain ⟨s1, s2, s3⟩ := ss
      replace hm : expr_depth_L0 n v0_l (k4 + 1) s1 s2 s3 = some o11 := hm
      rw [expr_depth_L0] at hm
      conv => lhs; whnf
      refine bif_or2 hm ?_ ?_ <;> clear hm <;> intro hc12 hm
      · simp only [hc12, ls]
        conv => lhs; whnf
        refine bind_some2 hm ?_; clear hm; intro x13 hx13 hm
        refine bif_pos (by first | exact idx_in hx13 | exact idx_in' hx13) ?_
        simp only [idx_nth (f := c_api_Node) hx13, ls]
        conv => lhs; whnf
        refine bind_some2 hm ?_; clear hm; intro y14 hy14 hm
        have hk15 : call false 65 [AV.int .i64 (x13.f_Op)] [] = some (AV.int .i64 (y14), []) := (hc _ _ _).trans (ok_expr_kids n x13.f_Op y14 hy14)
        try simp only [List.drop_zero, ls]
        first | simp only [hk15] | rewrite [hk15]
        try simp only [ls]
        conv => lhs; whnf
        refine bif_or2 hm ?_ ?_ <;> clear hm <;> intro hc16 hm
        · simp only [hc16, ls]
          conv => lhs; whnf
          refine chk_some2 hm ?_; clear hm; intro hc19 hm
          try simp only [dec_self]
          conv => lhs; whnf
          refine bif_pos (app_row hc19 (by first | rfl | simp only [List.length_map]) (by first | rfl | simp only [List.length_map]) (by first | rfl | simp only [List.length_map, take_map_len]) (by kernel_rfl)) ?_
          try simp only [lt]
          have hp17 : (List.map encI (s3) : List (List AV)) ++ [[AV.int .i64 (y14)]] = List.map encI (s3 ++ ([y14] : List Int)) := by first | rfl | (rw [List.map_append]; rfl) | (rw [List.map_append]; done) | (simp only [List.map_append, List.map_cons, List.map_nil, List.nil_append, encI] <;> rfl)
          have hl18 : List.length (List.map encI (s3) : List (List AV)) + List.length ([[AV.int .i64 (y14)]] : List (List AV)) = List.length (s3 ++ ([y14] : List Int)) := by simp only [List.length_map, List.length_append] <;> rfl
          have hl18_b : List.length s3 + List.length ([[AV.int .i64 (y14)]] : List (List AV)) = List.length (s3 ++ ([y14] : List Int)) := by simp only [List.length_map, List.length_append] <;> rfl
          have hl18_c : List.length s3 + List.length ([y14] : List Int) = List.length (s3 ++ ([y14] : List Int)) := by simp only [List.length_map, List.length_append] <;> rfl
          first | simp only [hp17, hl18] | (simp only [List.length_map, take_map_len]; simp only [hp17, hl18_b, hl18_c])
          try simp only [ls]
          conv => lhs; whnf
          exact cq (hcont9 ((if s1 < (((s3).length : Nat) : Int) then (((s3).length : Nat) : Int) else s1), IntKind.i64.wrap (s2 + 1), (s3 ++ ([y14] : List Int))) (fun j => (bif Nat.beq j 0 then ((a5 0) + 1) else 0)) hm)
        · simp only [hc16, ls]
          conv => lhs; whnf
          refine bind_some2 hm ?_; clear hm; intro o28 ho28 hm
          refine rounds_sim (σ := (List Int)) (τ := (List Int)) (ν := Int) 2 (fun s20 a22 => stOf 50 [(3, AV.stk 0 (a22 0) (List.length (s20))), (4, AV.int .i64 ((if s1 < (((s3).length : Nat) : Int) then (((s3).length : Nat) : Int) else s1))), (9, AV.sl 5 (List.map c_api_Node (v0_l))), (10, AV.int .i64 ((((v0_l).length : Nat) : Int))), (11, AV.int .i64 (s2))]) (fun s20 a22 => [Ob.stk (a22 0) 3 1 (List.map encI (s20)), Ob.var 57 [AV.int .i64 (x13.f_Op), AV.int .i64 (x13.f_N), AV.str (x13.f_Name), AV.str (x13.f_In), AV.int .i64 (x13.f_At)]]) (fun x38 a37 => stOf 50 [(3, AV.stk 0 (a37 0) (List.length (x38))), (4, AV.int .i64 ((if s1 < (((s3).length : Nat) : Int) then (((s3).length : Nat) : Int) else s1))), (9, AV.sl 5 (List.map c_api_Node (v0_l))), (10, AV.int .i64 ((((v0_l).length : Nat) : Int))), (11, AV.int .i64 (s2))]) (fun x38 a37 => [Ob.stk (a37 0) 3 1 (List.map encI (x38)), Ob.var 57 [AV.int .i64 (x13.f_Op), AV.int .i64 (x13.f_N), AV.str (x13.f_Name), AV.str (x13.f_In), AV.int .i64 (x13.f_At)]]) (fun v => (AV.int .i64 (v), [])) (fun k s => expr_depth_L1 n k s) (fun s => rfl) o28 ?_ n s3 (fun j => (bif Nat.beq j 0 then (a5 0) else 0)) _ _ ho28 ?_ (by first | rfl | (simp only [ls, List.map_append, List.map_cons, List.map_nil, List.append_nil, List.length_set, length_copyL] <;> rfl)) (by first | rfl | (simp only [ls, List.map_append, List.map_cons, List.map_nil, List.append_nil, List.length_set, length_copyL] <;> rfl))
          · intro k21 ss a22 K23 cont24 hK25 hcont26 hm hr27
            obtain ⟨s20, rfl⟩ : ∃ x, x = ss := ⟨_, rfl⟩
            replace hm : expr_depth_L1 n (k21 + 1) s20 = some o28 := hm
            rw [expr_depth_L1] at hm
            conv => lhs; whnf
            refine bif_or2 hm ?_ ?_ <;> clear hm <;> intro hc29 hm
            · simp only [hc29, ls]
              conv => lhs; whnf
              refine bind_some2 hm ?_; clear hm; intro x30 hx30 hm
              try simp only [dec_self]
              conv => lhs; whnf
              try simp only [ls]
              refine bif_pos (by first | exact idx_in hx30 | exact idx_in' hx30 | exact own_in hx30 | exact own_in' hx30 | (have q := idx_in hx30; simp only [List.length_set] at q; exact q) | (have q := own_in' hx30; simp only [List.length_set, Nat.zero_add] at q ⊢; exact q)) ?_
              conv => lhs; whnf
              try simp only [idx_nth (f := encI) hx30, dec_self, ls]
              conv => lhs; whnf
              refine bind_some2 hm ?_; clear hm; intro x31 hx31 hm
              try simp only [dec_self]
              conv => lhs; whnf
              try simp only [ls]
              refine bif_pos (by first | exact idx_in hx31 | exact idx_in' hx31 | exact own_in hx31 | exact own_in' hx31 | (have q := idx_in hx31; simp only [List.length_set] at q; exact q) | (have q := own_in' hx31; simp only [List.length_set, Nat.zero_add] at q ⊢; exact q)) ?_
              conv => lhs; whnf
              try simp only [idx_nth (f := encI) hx31, dec_self, ls]
              conv => lhs; whnf
              have hs32 : setNth (List.map encI s20) (IntKind.i64.wrap ((((s20).length : Nat) : Int) - 1)).toNat [AV.int .i64 (IntKind.i64.wrap (x30 - 1))] = List.map encI (List.set s20 (IntKind.i64.wrap ((((s20).length : Nat) : Int) - 1)).toNat (IntKind.i64.wrap (x30 - 1))) := by rw [setNth_eq, List.map_set]; rfl
              have hs32_u : setNth (List.map encI s20) (IntKind.i64.wrap ((((s20).length : Nat) : Int) - 1)).toNat (updL (encI x31) 0 [AV.int .i64 (IntKind.i64.wrap (x30 - 1))]) = List.map encI (List.set s20 (IntKind.i64.wrap ((((s20).length : Nat) : Int) - 1)).toNat (IntKind.i64.wrap (x30 - 1))) := by rw [setNth_eq, List.map_set]; rfl
              try simp only [idx_nth (f := encI) hx31, dec_self]
              conv => lhs; whnf
              try simp only [hs32, hs32_u, dec_self]
              conv => lhs; whnf
              refine bind_some2 hm ?_; clear hm; intro x33 hx33 hm
              try simp only [dec_self]
              conv => lhs; whnf
              try simp only [ls]
              refine bif_pos (by first | exact idx_in hx33 | exact idx_in' hx33 | exact own_in hx33 | exact own_in' hx33 | (have q := idx_in hx33; simp only [List.length_set] at q; exact q) | (have q := own_in' hx33; simp only [List.length_set, Nat.zero_add] at q ⊢; exact q)) ?_
              conv => lhs; whnf
              try simp only [idx_nth (f := encI) hx33, dec_self, ls]
              conv => lhs; whnf
              refine bif_or2 hm ?_ ?_ <;> clear hm <;> intro hc34 hm
              · simp only [hc34, ls]
                conv => lhs; whnf
                have hq := Option.some.inj hm; clear hm; subst hq
                exact kq (hr27 (fun j => (bif Nat.beq j 0 then (a22 0) else 0)))
              · simp only [hc34, ls]
                conv => lhs; whnf
                refine chk_some2 hm ?_; clear hm; intro hc36 hm
                try simp only [dec_self]
                conv => lhs; whnf
                try simp only [ls]
                first | refine bif_pos hc36 ?_ | (refine bif_pos (by have q := hc36; simp only [List.length_set] at q; exact q) ?_)
                have hs35 : List.take ((IntKind.i64.wrap ((((s20).length : Nat) : Int) - 1)).toNat) (List.map encI (List.set s20 (IntKind.i64.wrap ((((s20).length : Nat) : Int) - 1)).toNat (IntKind.i64.wrap (x30 - 1)))) = List.map encI (List.take ((IntKind.i64.wrap ((((s20).length : Nat) : Int) - 1)).toNat) (List.set s20 (IntKind.i64.wrap ((((s20).length : Nat) : Int) - 1)).toNat (IntKind.i64.wrap (x30 - 1)))) := by rw [List.map_take]
                have hs35_l : List.length (List.take ((IntKind.i64.wrap ((((s20).length : Nat) : Int) - 1)).toNat) (List.set s20 (IntKind.i64.wrap ((((s20).length : Nat) : Int) - 1)).toNat (IntKind.i64.wrap (x30 - 1)))) = (IntKind.i64.wrap ((((s20).length : Nat) : Int) - 1)).toNat := by simp only [List.length_take]; exact Nat.min_eq_left (cut_le hc36)
                conv => lhs; whnf
                try simp only [dec_self, hs35]
                conv => lhs; whnf
                try simp only [hs35]
                have hs35_s : ∀ q, AV.stk 0 q ((IntKind.i64.wrap ((((s20).length : Nat) : Int) - 1)).toNat) = AV.stk 0 q (List.length (List.take ((IntKind.i64.wrap ((((s20).length : Nat) : Int) - 1)).toNat) (List.set s20 (IntKind.i64.wrap ((((s20).length : Nat) : Int) - 1)).toNat (IntKind.i64.wrap (x30 - 1))))) := fun q => by rw [hs35_l]
                try simp only [hs35_s]
                conv => lhs; whnf
                exact cq (hcont26 (List.take ((IntKind.i64.wrap ((((s20).length : Nat) : Int) - 1)).toNat) (List.set s20 (IntKind.i64.wrap ((((s20).length : Nat) : Int) - 1)).toNat (IntKind.i64.wrap (x30 - 1)))) (fun j => (bif Nat.beq j 0 then ((a22 0) + 1) else 0)) hm)
            · simp only [hc29, ls]
              conv => lhs; whnf
              have hq := Option.some.inj hm; clear hm; subst hq
              exact kq (hr27 (fun j => (bif Nat.beq j 0 then (a22 0) else 0)))
          · cases o28 with
            | ret v =>
              have hq := Option.some.inj hm; clear hm; subst hq
              exact hr10
            | out t =>
              obtain ⟨x38, rfl⟩ : ∃ x, x = t := ⟨_, rfl⟩
              intro a37
              dsimp only at hm
              conv => lhs; whnf
              exact cq (hcont9 ((if s1 < (((s3).length : Nat) : Int) then (((s3).length : Nat) : Int) else s1), IntKind.i64.wrap (s2 + 1), x38) (fun j => (bif Nat.beq j 0 then (a37 0) else 0)) hm)
      · simp only [hc12, ls]
        conv => lhs; whnf
        have hq := Option.some.inj hm; clear hm; subst hq
        exact kq (hr10 (fun j => (bif Nat.beq j 0 then (a5 0) else 0)))
    · cases o11 with
      | ret v =>
        have hq := Option.some.inj hm; clear hm; subst hq
        rfl
      | out t =>
        obtain ⟨x41, x42⟩ := t
        intro a40
        dsimp only at hm
        conv => lhs; whnf
        have hq := Option.some.inj hm; clear hm; subst hq
        try simp only [ls]
        exact fq (y := some (AV.int .i64 (x41), []))

set_option maxHeartbeats 4000000 in
theorem ok_expr_fits (n : Nat) : ∀ (v0_x : S_api_Node) (r : Bool), m_expr_fits n v0_x = some r → callN Try.prog HH XT n 61 [AV.agg [AV.int .i64 (v0_x.f_Op), AV.int .i64 (v0_x.f_N), AV.str (v0_x.f_Name), AV.str (v0_x.f_In), AV.int .i64 (v0_x.f_At)]] [] = some (AV.bool (r), []) := by
  cases n with
  | zero => intro v0_x r hm; exact absurd hm (by intro h; cases h)
  | succ n =>
    intro v0_x r hm
    rw [m_expr_fits] at hm
    refine callN_eq' Try.func61 (by rfl) rfl rfl (Nat.le_of_ble_eq_true rfl) ?_
    intro call hc
    conv => lhs; whnf
    refine bif_or2 hm ?_ ?_ <;> clear hm <;> intro hc1 hm
    · simp only [hc1, ls]
      conv => lhs; whnf
      have hq := Option.some.inj hm; clear hm; subst hq
      try simp only [ls]
      exact fq (y := some (AV.bool (false), []))
    · simp only [hc1, ls]
      conv => lhs; whnf
      refine bif_or2 hm ?_ ?_ <;> clear hm <;> intro hc2 hm
      · simp only [hc2, ls]
        conv => lhs; whnf
        have hf5 : flatT Try.prog 57 = some (fieldsOf Try.prog 57) := by kernel_rfl
        simp only [hf5, List.length_map, take_map_len]
        conv => lhs; whnf
        refine bif_or2 hm ?_ ?_ <;> clear hm <;> intro hc3 hm
        · simp only [hc3, ls]
          conv => lhs; whnf
          refine bif_or2 hm ?_ ?_ <;> clear hm <;> intro hc4 hm
          · simp only [hc4, ls]
            conv => lhs; whnf
            have hq := Option.some.inj hm; clear hm; subst hq
            try simp only [ls]
            exact fq (y := some (AV.bool (decide (v0_x.f_N ≤ 9999)), []))
          · simp only [hc4, ls]
            conv => lhs; whnf
            have hq := Option.some.inj hm; clear hm; subst hq
            try simp only [ls]
            exact fq (y := some (AV.bool (false), []))
        · simp only [hc3, ls]
          conv => lhs; whnf
          have hq := Option.some.inj hm; clear hm; subst hq
          try simp only [ls]
          exact fq (y := some (AV.bool (false), []))
      · simp only [hc2, ls]
        conv => lhs; whnf
        refine bif_or2 hm ?_ ?_ <;> clear hm <;> intro hc6 hm
        · simp only [hc6, ls]
          conv => lhs; whnf
          refine bind_some2 hm ?_; clear hm; intro y7 hy7 hm
          have hk8 : call false 66 [AV.str (v0_x.f_In)] [] = some (AV.bool (y7), []) := (hc _ _ _).trans (ok_scan_Name n v0_x.f_In y7 hy7)
          try simp only [List.drop_zero, ls]
          first | simp only [hk8] | rewrite [hk8]
          try simp only [ls]
          conv => lhs; whnf
          refine bif_or2 hm ?_ ?_ <;> clear hm <;> intro hc9 hm
          · simp only [hc9, ls]
            conv => lhs; whnf
            have hf13 : flatT Try.prog 57 = some (fieldsOf Try.prog 57) := by kernel_rfl
            simp only [hf13, List.length_map, take_map_len]
            conv => lhs; whnf
            refine bif_or2 hm ?_ ?_ <;> clear hm <;> intro hc10 hm
            · simp only [hc10, ls]
              conv => lhs; whnf
              refine bind_some2 hm ?_; clear hm; intro y11 hy11 hm
              have hk12 : call false 66 [AV.str (v0_x.f_Name)] [] = some (AV.bool (y11), []) := (hc _ _ _).trans (ok_scan_Name n v0_x.f_Name y11 hy11)
              try simp only [List.drop_zero, ls]
              first | simp only [hk12] | rewrite [hk12]
              try simp only [ls]
              conv => lhs; whnf
              have hq := Option.some.inj hm; clear hm; subst hq
              try simp only [ls]
              exact fq (y := some (AV.bool (y11), []))
            · simp only [hc10, ls]
              conv => lhs; whnf
              have hq := Option.some.inj hm; clear hm; subst hq
              try simp only [ls]
              exact fq (y := some (AV.bool (false), []))
          · simp only [hc9, ls]
            conv => lhs; whnf
            have hq := Option.some.inj hm; clear hm; subst hq
            try simp only [ls]
            exact fq (y := some (AV.bool (false), []))
        · simp only [hc6, ls]
          conv => lhs; whnf
          refine bif_or2 hm ?_ ?_ <;> clear hm <;> intro hc14 hm
          · simp only [hc14, ls]
            conv => lhs; whnf
            have hf18 : flatT Try.prog 57 = some (fieldsOf Try.prog 57) := by kernel_rfl
            simp only [hf18, List.length_map, take_map_len]
            conv => lhs; whnf
            refine bif_or2 hm ?_ ?_ <;> clear hm <;> intro hc15 hm
            · simp only [hc15, ls]
              conv => lhs; whnf
              refine bind_some2 hm ?_; clear hm; intro y16 hy16 hm
              have hk17 : call false 66 [AV.str (v0_x.f_Name)] [] = some (AV.bool (y16), []) := (hc _ _ _).trans (ok_scan_Name n v0_x.f_Name y16 hy16)
              try simp only [List.drop_zero, ls]
              first | simp only [hk17] | rewrite [hk17]
              try simp only [ls]
              conv => lhs; whnf
              have hq := Option.some.inj hm; clear hm; subst hq
              try simp only [ls]
              exact fq (y := some (AV.bool (y16), []))
            · simp only [hc15, ls]
              conv => lhs; whnf
              have hq := Option.some.inj hm; clear hm; subst hq
              try simp only [ls]
              exact fq (y := some (AV.bool (false), []))
          · simp only [hc14, ls]
            conv => lhs; whnf
            refine bif_or2 hm ?_ ?_ <;> clear hm <;> intro hc19 hm
            · simp only [hc19, ls]
              conv => lhs; whnf
              have hf23 : flatT Try.prog 57 = some (fieldsOf Try.prog 57) := by kernel_rfl
              simp only [hf23, List.length_map, take_map_len]
              conv => lhs; whnf
              refine bif_or2 hm ?_ ?_ <;> clear hm <;> intro hc20 hm
              · simp only [hc20, ls]
                conv => lhs; whnf
                refine bind_some2 hm ?_; clear hm; intro y21 hy21 hm
                have hk22 : call false 66 [AV.str (v0_x.f_Name)] [] = some (AV.bool (y21), []) := (hc _ _ _).trans (ok_scan_Name n v0_x.f_Name y21 hy21)
                try simp only [List.drop_zero, ls]
                first | simp only [hk22] | rewrite [hk22]
                try simp only [ls]
                conv => lhs; whnf
                have hq := Option.some.inj hm; clear hm; subst hq
                try simp only [ls]
                exact fq (y := some (AV.bool (y21), []))
              · simp only [hc20, ls]
                conv => lhs; whnf
                have hq := Option.some.inj hm; clear hm; subst hq
                try simp only [ls]
                exact fq (y := some (AV.bool (false), []))
            · simp only [hc19, ls]
              conv => lhs; whnf
              have hf24 : flatT Try.prog 57 = some (fieldsOf Try.prog 57) := by kernel_rfl
              simp only [hf24, List.length_map, take_map_len]
              conv => lhs; whnf
              have hq := Option.some.inj hm; clear hm; subst hq
              try simp only [ls]
              exact fq (y := some (AV.bool (((v0_x.f_Op == v0_x.f_Op) && ((v0_x.f_N == 0) && ((v0_x.f_Name == ([] : List UInt8)) && ((v0_x.f_In == ([] : List UInt8)) && ((v0_x.f_At == v0_x.f_At) && true)))))), []))

set_option maxHeartbeats 4000000 in
theorem ok_expr_Right (n : Nat) : ∀ (v0_l : (List S_api_Node)) (r : Bool), m_expr_Right n v0_l = some r → callN Try.prog HH XT n 44 [AV.sl 5 (List.map c_api_Node (v0_l))] [] = some (AV.bool (r), []) := by
  cases n with
  | zero => intro v0_l r hm; exact absurd hm (by intro h; cases h)
  | succ n =>
    intro v0_l r hm
    rw [m_expr_Right] at hm
    refine callN_eq' Try.func44 (by rfl) rfl rfl (Nat.le_of_ble_eq_true rfl) ?_
    intro call hc
    conv => lhs; whnf
    refine bif_or2 hm ?_ ?_ <;> clear hm <;> intro hc1 hm
    · simp only [hc1, ls]
      conv => lhs; whnf
      have hq := Option.some.inj hm; clear hm; subst hq
      try simp only [ls]
      exact fq (y := some (AV.bool (false), []))
    · simp only [hc1, ls]
      conv => lhs; whnf
      refine bif_or2 hm ?_ ?_ <;> clear hm <;> intro hc2 hm
      · simp only [hc2, ls]
        conv => lhs; whnf
        have hq := Option.some.inj hm; clear hm; subst hq
        try simp only [ls]
        exact fq (y := some (AV.bool (false), []))
      · simp only [hc2, ls]
        conv => lhs; whnf
        refine bind_some2 hm ?_; clear hm; intro y3 hy3 hm
        have hk4 : call false 60 [AV.sl 5 (List.map c_api_Node (v0_l)), AV.int .i64 (0)] [] = some (AV.int .i64 (y3), []) := (hc _ _ _).trans (ok_expr_End n v0_l 0 y3 hy3)
        try simp only [List.drop_zero, ls]
        first | simp only [hk4] | rewrite [hk4]
        try simp only [ls]
        conv => lhs; whnf
        refine bif_or2 hm ?_ ?_ <;> clear hm <;> intro hc5 hm
        · simp only [hc5, ls]
          conv => lhs; whnf
          have hq := Option.some.inj hm; clear hm; subst hq
          try simp only [ls]
          exact fq (y := some (AV.bool (false), []))
        · simp only [hc5, ls]
          conv => lhs; whnf
          refine bind_some2 hm ?_; clear hm; intro o14 ho14 hm
          refine rounds_sim (σ := Int) (τ := Unit) (ν := Bool) 0 (fun s6 a8 => stOf 33 [(0, AV.sl 5 (List.map c_api_Node (v0_l))), (20, AV.sl 5 (List.map c_api_Node (v0_l))), (21, AV.int .i64 ((((v0_l).length : Nat) : Int))), (22, AV.int .i64 (s6))]) (fun s6 a8 => []) (fun _ a20 => stOf 33 [(0, AV.sl 5 (List.map c_api_Node (v0_l)))]) (fun _ a20 => []) (fun v => (AV.bool (v), [])) (fun k s => expr_Right_L0 n v0_l k s) (fun s => rfl) o14 ?_ n 0 (fun _ => 0) _ _ ho14 ?_ (by first | rfl | (simp only [ls, List.map_append, List.map_cons, List.map_nil, List.append_nil, List.length_set, length_copyL] <;> rfl)) (by first | rfl | (simp only [ls, List.map_append, List.map_cons, List.map_nil, List.append_nil, List.length_set, length_copyL] <;> rfl))
          · intro k7 ss a8 K9 cont10 hK11 hcont12 hm hr13
            obtain ⟨s6, rfl⟩ : ∃ x, x = ss := ⟨_, rfl⟩
            replace hm : expr_Right_L0 n v0_l (k7 + 1) s6 = some o14 := hm
            rw [expr_Right_L0] at hm
            conv => lhs; whnf
            refine bif_or2 hm ?_ ?_ <;> clear hm <;> intro hc15 hm
            · simp only [hc15, ls]
              conv => lhs; whnf
              refine bind_some2 hm ?_; clear hm; intro x16 hx16 hm
              refine bif_pos (by first | exact idx_in hx16 | exact idx_in' hx16) ?_
              simp only [idx_nth (f := c_api_Node) hx16, ls]
              conv => lhs; whnf
              refine bind_some2 hm ?_; clear hm; intro y17 hy17 hm
              have hk18 : call false 61 [AV.agg [AV.int .i64 (x16.f_Op), AV.int .i64 (x16.f_N), AV.str (x16.f_Name), AV.str (x16.f_In), AV.int .i64 (x16.f_At)]] [] = some (AV.bool (y17), []) := (hc _ _ _).trans (ok_expr_fits n x16 y17 hy17)
              try simp only [List.drop_zero, ls]
              first | simp only [hk18] | rewrite [hk18]
              try simp only [ls]
              conv => lhs; whnf
              refine bif_or2 hm ?_ ?_ <;> clear hm <;> intro hc19 hm
              · simp only [hc19, ls]
                conv => lhs; whnf
                exact cq (hcont12 (IntKind.i64.wrap (s6 + 1)) (fun _ => 0) hm)
              · simp only [hc19, ls]
                conv => lhs; whnf
                have hq := Option.some.inj hm; clear hm; subst hq
                refine (hK11 _ _).trans ?_
                refine Eq.trans ?_ (Eq.symm (show _ = some _ from hr13))
                conv => lhs; whnf
                try simp only [ls]
                exact fq (y := some (AV.bool (false), []))
            · simp only [hc15, ls]
              conv => lhs; whnf
              have hq := Option.some.inj hm; clear hm; subst hq
              exact kq (hr13 (fun _ => 0))
          · cases o14 with
            | ret v =>
              have hq := Option.some.inj hm; clear hm; subst hq
              rfl
            | out t =>
              intro a20
              dsimp only at hm
              conv => lhs; whnf
              refine bind_some2 hm ?_; clear hm; intro y21 hy21 hm
              have hk22 : call false 62 [AV.sl 5 (List.map c_api_Node (v0_l))] [] = some (AV.int .i64 (y21), []) := (hc _ _ _).trans (ok_expr_depth n v0_l y21 hy21)
              try simp only [List.drop_zero, ls]
              first | simp only [hk22] | rewrite [hk22]
              try simp only [ls]
              conv => lhs; whnf
              have hq := Option.some.inj hm; clear hm; subst hq
              try simp only [ls]
              exact fq (y := some (AV.bool (decide (y21 ≤ 30)), []))
end Go.Proofs.Ytmnnkeejgkhgpaa
end

section
namespace Go.Proofs.Ytmnnkeejgkhgpaa
set_option linter.unusedVariables false
set_option linter.unusedSimpArgs false
set_option maxRecDepth 100000

set_option maxHeartbeats 4000000 in
theorem ok_code_made_1 (n : Nat) : ∀ (v0_l : (List S_api_Node)) (o0 : (List (List UInt8))) (o1_Mod : Int) (o1_Locs : (List S_api_Var)) (o1_Threads : (List S_api_Thread)) (o1_Claims : (List S_api_Claim)) (r : ((List OpS) × Bool)), m_code_made_1 n v0_l o0 o1_Mod o1_Locs o1_Threads o1_Claims = some r → callN Try.prog HH XT n 26 [AV.sl 5 (List.map c_api_Node (v0_l)), AV.func 33 [] [AV.ptr 0 0, AV.ptr 1 0]] [Ob.var 23 [AV.sl 1 (List.map encS (o0))], Ob.var 28 [AV.int .i64 (o1_Mod), AV.sl 3 (List.map c_api_Var (o1_Locs)), AV.sl 4 (List.map c_api_Thread (o1_Threads)), AV.sl 3 (List.map c_api_Claim (o1_Claims))]] = some (AV.tup [AV.sl 3 (List.map encOp ((r).1)), AV.bool ((r).2)], [Ob.var 23 [AV.sl 1 (List.map encS (o0))], Ob.var 28 [AV.int .i64 (o1_Mod), AV.sl 3 (List.map c_api_Var (o1_Locs)), AV.sl 4 (List.map c_api_Thread (o1_Threads)), AV.sl 3 (List.map c_api_Claim (o1_Claims))]]) := by
  cases n with
  | zero => intro v0_l o0 o1_Mod o1_Locs o1_Threads o1_Claims r hm; exact absurd hm (by intro h; cases h)
  | succ n =>
    intro v0_l o0 o1_Mod o1_Locs o1_Threads o1_Claims r hm
    rw [m_code_made_1] at hm
    refine callN_eq' Try.func26 (by rfl) rfl rfl (Nat.le_of_ble_eq_true rfl) ?_
    intro call hc
    conv => lhs; whnf
    refine bind_some2 hm ?_; clear hm; intro y1 hy1 hm
    have hk2 : call false 44 [AV.sl 5 (List.map c_api_Node (v0_l))] [] = some (AV.bool (y1), []) := (hc _ _ _).trans (ok_expr_Right n v0_l y1 hy1)
    try simp only [List.drop_zero, ls]
    first | simp only [hk2] | rewrite [hk2]
    try simp only [ls]
    conv => lhs; whnf
    refine bif_or2 hm ?_ ?_ <;> clear hm <;> intro hc3 hm
    · simp only [hc3, ls]
      conv => lhs; whnf
      refine bind_some2 hm ?_; clear hm; intro y4 hy4 hm
      have hk5 : call false 45 [AV.ptr 0 0, AV.int .i64 (0)] [Ob.var 87 [AV.sl 5 (List.map c_api_Node (v0_l)), AV.func 33 [] [AV.ptr 1 0, AV.ptr 2 0], AV.row 3 (List.length (([] : List OpS))), AV.bool (true)], Ob.var 23 [AV.sl 1 (List.map encS (o0))], Ob.var 28 [AV.int .i64 (o1_Mod), AV.sl 3 (List.map c_api_Var (o1_Locs)), AV.sl 4 (List.map c_api_Thread (o1_Threads)), AV.sl 3 (List.map c_api_Claim (o1_Claims))], Ob.row 53 3 ([])] = some (AV.int .i64 ((y4).1), [Ob.var 87 [AV.sl 5 (List.map c_api_Node (v0_l)), AV.func 33 [] [AV.ptr 1 0, AV.ptr 2 0], AV.row 3 (List.length ((y4).2.1)), AV.bool ((y4).2.2)], Ob.var 23 [AV.sl 1 (List.map encS (o0))], Ob.var 28 [AV.int .i64 (o1_Mod), AV.sl 3 (List.map c_api_Var (o1_Locs)), AV.sl 4 (List.map c_api_Thread (o1_Threads)), AV.sl 3 (List.map c_api_Claim (o1_Claims))], Ob.row 53 3 (List.map encOp ((y4).2.1))]) := (hc _ _ _).trans (ok_code_maker_node_1 n 0 v0_l ([] : List OpS) true o0 o1_Mod o1_Locs o1_Threads o1_Claims y4 hy4)
      try simp only [List.length_nil, List.map_nil] at hk5
      try simp only [List.length_nil, List.map_nil]
      try simp only [List.drop_zero, ls]
      first | simp only [hk5] | rewrite [hk5]
      try simp only [ls]
      conv => lhs; whnf
      refine bif_or2 hm ?_ ?_ <;> clear hm <;> intro hc6 hm
      · simp only [hc6, ls]
        conv => lhs; whnf
        have hq := Option.some.inj hm; clear hm; subst hq
        try simp only [ls]
        exact fq (y := some (AV.tup [AV.sl 3 (List.take (List.length ((y4).2.1)) (List.map encOp ((y4).2.1))), AV.bool (true)], [Ob.var 23 [AV.sl 1 (List.map encS (o0))], Ob.var 28 [AV.int .i64 (o1_Mod), AV.sl 3 (List.map c_api_Var (o1_Locs)), AV.sl 4 (List.map c_api_Thread (o1_Threads)), AV.sl 3 (List.map c_api_Claim (o1_Claims))]]))
      · simp only [hc6, ls]
        conv => lhs; whnf
        have hq := Option.some.inj hm; clear hm; subst hq
        try simp only [ls]
        exact fq (y := some (AV.tup [AV.sl 3 [], AV.bool (false)], [Ob.var 23 [AV.sl 1 (List.map encS (o0))], Ob.var 28 [AV.int .i64 (o1_Mod), AV.sl 3 (List.map c_api_Var (o1_Locs)), AV.sl 4 (List.map c_api_Thread (o1_Threads)), AV.sl 3 (List.map c_api_Claim (o1_Claims))]]))
    · simp only [hc3, ls]
      conv => lhs; whnf
      have hq := Option.some.inj hm; clear hm; subst hq
      try simp only [ls]
      exact fq (y := some (AV.tup [AV.sl 3 [], AV.bool (false)], [Ob.var 23 [AV.sl 1 (List.map encS (o0))], Ob.var 28 [AV.int .i64 (o1_Mod), AV.sl 3 (List.map c_api_Var (o1_Locs)), AV.sl 4 (List.map c_api_Thread (o1_Threads)), AV.sl 3 (List.map c_api_Claim (o1_Claims))]]))

set_option maxHeartbeats 4000000 in
theorem ok_code_Claim (n : Nat) : ∀ (v0_l : (List S_api_Node)) (v1_p : S_api_Prog) (r : ((List OpS) × Bool)), m_code_Claim n v0_l v1_p = some r → callN Try.prog HH XT n 13 [AV.sl 5 (List.map c_api_Node (v0_l)), AV.agg [AV.int .i64 (v1_p.f_Mod), AV.sl 3 (List.map c_api_Var (v1_p.f_Locs)), AV.sl 4 (List.map c_api_Thread (v1_p.f_Threads)), AV.sl 3 (List.map c_api_Claim (v1_p.f_Claims))]] [] = some (AV.tup [AV.sl 3 (List.map encOp ((r).1)), AV.bool ((r).2)], []) := by
  cases n with
  | zero => intro v0_l v1_p r hm; exact absurd hm (by intro h; cases h)
  | succ n =>
    intro v0_l v1_p r hm
    rw [m_code_Claim] at hm
    refine callN_eq' Try.func13 (by rfl) rfl rfl (Nat.le_of_ble_eq_true rfl) ?_
    intro call hc
    conv => lhs; whnf
    refine bind_some2 hm ?_; clear hm; intro y1 hy1 hm
    have hk2 : call false 32 [AV.agg [AV.int .i64 (v1_p.f_Mod), AV.sl 3 (List.map c_api_Var (v1_p.f_Locs)), AV.sl 4 (List.map c_api_Thread (v1_p.f_Threads)), AV.sl 3 (List.map c_api_Claim (v1_p.f_Claims))]] [] = some (AV.sl 1 (List.map encS (y1)), []) := (hc _ _ _).trans (ok_legal_Locs n v1_p y1 hy1)
    try simp only [List.drop_zero, ls]
    first | simp only [hk2] | rewrite [hk2]
    try simp only [ls]
    conv => lhs; whnf
    refine bind_some2 hm ?_; clear hm; intro y3 hy3 hm
    have hk4 : call false 26 [AV.sl 5 (List.map c_api_Node (v0_l)), AV.func 33 [] [AV.ptr 0 0, AV.ptr 1 0]] [Ob.var 23 [AV.sl 1 (List.map encS (y1))], Ob.var 28 [AV.int .i64 (v1_p.f_Mod), AV.sl 3 (List.map c_api_Var (v1_p.f_Locs)), AV.sl 4 (List.map c_api_Thread (v1_p.f_Threads)), AV.sl 3 (List.map c_api_Claim (v1_p.f_Claims))]] = some (AV.tup [AV.sl 3 (List.map encOp ((y3).1)), AV.bool ((y3).2)], [Ob.var 23 [AV.sl 1 (List.map encS (y1))], Ob.var 28 [AV.int .i64 (v1_p.f_Mod), AV.sl 3 (List.map c_api_Var (v1_p.f_Locs)), AV.sl 4 (List.map c_api_Thread (v1_p.f_Threads)), AV.sl 3 (List.map c_api_Claim (v1_p.f_Claims))]]) := (hc _ _ _).trans (ok_code_made_1 n v0_l y1 v1_p.f_Mod v1_p.f_Locs v1_p.f_Threads v1_p.f_Claims y3 hy3)
    try simp only [List.drop_zero, ls]
    first | simp only [hk4] | rewrite [hk4]
    try simp only [ls]
    conv => lhs; whnf
    have hq := Option.some.inj hm; clear hm; subst hq
    try simp only [ls]
    exact fq (y := some (AV.tup [AV.sl 3 (List.map encOp ((y3).1)), AV.bool ((y3).2)], []))

end Go.Proofs.Ytmnnkeejgkhgpaa
end

section
namespace Go.Proofs.Ytmnnkeejgkhgpaa
set_option linter.unusedVariables false
set_option linter.unusedSimpArgs false
set_option maxRecDepth 100000

set_option maxHeartbeats 4000000 in
theorem ok_code_Thread_1 (n : Nat) : ∀ (v0_x : S_api_Node) (o0 : (List (List UInt8))) (r : (OpS × Bool)), m_code_Thread_1 n v0_x o0 = some r → callN Try.prog HH XT n 27 [AV.agg [AV.int .i64 (v0_x.f_Op), AV.int .i64 (v0_x.f_N), AV.str (v0_x.f_Name), AV.str (v0_x.f_In), AV.int .i64 (v0_x.f_At)], AV.ptr 0 0] [Ob.var 23 [AV.sl 1 (List.map encS (o0))]] = some (AV.tup [AV.agg [AV.int .i64 ((r).1.op), AV.int .i64 ((r).1.n), AV.int .i64 ((r).1.t)], AV.bool ((r).2)], [Ob.var 23 [AV.sl 1 (List.map encS (o0))]]) := by
  cases n with
  | zero => intro v0_x o0 r hm; exact absurd hm (by intro h; cases h)
  | succ n =>
    intro v0_x o0 r hm
    rw [m_code_Thread_1] at hm
    refine callN_eq' Try.func27 (by rfl) rfl rfl (Nat.le_of_ble_eq_true rfl) ?_
    intro call hc
    conv => lhs; whnf
    refine bif_or2 hm ?_ ?_ <;> clear hm <;> intro hc1 hm
    · simp only [hc1, ls]
      conv => lhs; whnf
      have hq := Option.some.inj hm; clear hm; subst hq
      try simp only [ls]
      exact fq (y := some (AV.tup [AV.agg [AV.int .i64 (1), AV.int .i64 (v0_x.f_N), AV.int .i64 (0)], AV.bool (true)], [Ob.var 23 [AV.sl 1 (List.map encS (o0))]]))
    · simp only [hc1, ls]
      conv => lhs; whnf
      refine bind_some2 hm ?_; clear hm; intro y2 hy2 hm
      have hk3 : call false 28 [AV.sl 1 (List.map encS (o0)), AV.str (v0_x.f_Name)] [] = some (AV.int .i64 (y2), []) := (hc _ _ _).trans (ok_legal_Index n o0 v0_x.f_Name y2 hy2)
      try simp only [List.drop_zero, ls]
      first | simp only [hk3] | rewrite [hk3]
      try simp only [ls]
      conv => lhs; whnf
      refine bif_or2 hm ?_ ?_ <;> clear hm <;> intro hc4 hm
      · simp only [hc4, ls]
        conv => lhs; whnf
        have hq := Option.some.inj hm; clear hm; subst hq
        try simp only [ls]
        exact fq (y := some (AV.tup [AV.agg [AV.int .i64 (2), AV.int .i64 (y2), AV.int .i64 (0)], AV.bool ((y2 != (-1)))], [Ob.var 23 [AV.sl 1 (List.map encS (o0))]]))
      · simp only [hc4, ls]
        conv => lhs; whnf
        have hq := Option.some.inj hm; clear hm; subst hq
        try simp only [ls]
        exact fq (y := some (AV.tup [AV.agg [AV.int .i64 (2), AV.int .i64 (y2), AV.int .i64 (0)], AV.bool (false)], [Ob.var 23 [AV.sl 1 (List.map encS (o0))]]))
end Go.Proofs.Ytmnnkeejgkhgpaa
end

