/- Parts of the proofs: what they lean on. Conditions: none. -/
import Derived.Test.YtmnnkeejgkhgpaaCodeBoundsP1
section
namespace Go.Proofs.Ytmnnkeejgkhgpaa
set_option linter.unusedVariables false
set_option linter.unusedSimpArgs false
set_option maxRecDepth 100000

def OK_code_maker_node (n : Nat) : Prop := ∀ (v1_i : Int) (m_l : (List S_api_Node)) (m_out : (List OpS)) (m_ok : Bool) (o1 : (List (List UInt8))) (r : (Int × (List OpS) × Bool)), m_code_maker_node n v1_i m_l m_out m_ok o1 = some r → callN Try.prog HH XT n 45 [AV.ptr 0 0, AV.int .i64 (v1_i)] [Ob.var 87 [AV.sl 5 (List.map c_api_Node (m_l)), AV.func 27 [] [AV.ptr 1 0], AV.row 2 (List.length (m_out)), AV.bool (m_ok)], Ob.var 23 [AV.sl 1 (List.map encS (o1))], Ob.row 53 3 (List.map encOp (m_out))] = some (AV.int .i64 ((r).1), [Ob.var 87 [AV.sl 5 (List.map c_api_Node (m_l)), AV.func 27 [] [AV.ptr 1 0], AV.row 2 (List.length ((r).2.1)), AV.bool ((r).2.2)], Ob.var 23 [AV.sl 1 (List.map encS (o1))], Ob.row 53 3 (List.map encOp ((r).2.1))])
set_option maxHeartbeats 4000000 in
theorem st_code_maker_node (n : Nat) (ih_code_maker_node : OK_code_maker_node n) : OK_code_maker_node (n + 1) := by
  intro v1_i m_l m_out m_ok o1 r hm
  rw [m_code_maker_node] at hm
  refine callN_eq' Try.func45 (by rfl) rfl rfl (Nat.le_of_ble_eq_true rfl) ?_
  intro call hc
  conv => lhs; whnf
  refine bind_some2 hm ?_; clear hm; intro x1 hx1 hm
  refine bif_pos (by first | exact idx_in hx1 | exact idx_in' hx1) ?_
  simp only [idx_nth (f := c_api_Node) hx1, ls]
  conv => lhs; whnf
  refine bind_some2 hm ?_; clear hm; intro y2 hy2 hm
  cases y2 with
  | c0 y4 =>
    dsimp only at hm
    have hk3 : call false 37 [AV.int .i64 (x1.f_Op)] [] = some (AV.tup [AV.agg [AV.int .i64 ((y4).1), AV.nilf], AV.bool ((y4).2)], []) := (hc _ _ _).trans (ok_code_of n x1.f_Op (.c0 y4) hy2)
    try simp only [List.drop_zero, ls]
    first | simp only [hk3] | rewrite [hk3]
    try simp only [ls]
    conv => lhs; whnf
    refine bif_or2 hm ?_ ?_ <;> clear hm <;> intro hc15 hm
    · simp only [hc15, ls]
      conv => lhs; whnf
      refine bind_some2 hm ?_; clear hm; intro o27 ho27 hm
      refine rounds_sim (σ := (Int × Int × Bool × (List OpS))) (τ := (Int × Bool × (List OpS))) (ν := (Int × (List OpS) × Bool)) 0 (fun (s16, s17, s18, s19) a21 => stOf 80 [(0, AV.ptr 0 0), (5, AV.ptr 3 0), (10, AV.int .i64 (s16)), (60, AV.int .i64 ((y4).1)), (61, AV.int .i64 (s17))]) (fun (s16, s17, s18, s19) a21 => [Ob.var 87 [AV.sl 5 (List.map c_api_Node (m_l)), AV.func 27 [] [AV.ptr 1 0], AV.row 2 (List.length (s19)), AV.bool (s18)], Ob.var 23 [AV.sl 1 (List.map encS (o1))], Ob.row 53 3 (List.map encOp (s19)), Ob.var 57 [AV.int .i64 (x1.f_Op), AV.int .i64 (x1.f_N), AV.str (x1.f_Name), AV.str (x1.f_In), AV.int .i64 (x1.f_At)], Ob.var 74 [AV.int .i64 ((y4).1), AV.nilf]]) (fun (x32, x33, x34) a31 => stOf 80 [(0, AV.ptr 0 0), (5, AV.ptr 3 0), (10, AV.int .i64 (x32))]) (fun (x32, x33, x34) a31 => [Ob.var 87 [AV.sl 5 (List.map c_api_Node (m_l)), AV.func 27 [] [AV.ptr 1 0], AV.row 2 (List.length (x34)), AV.bool (x33)], Ob.var 23 [AV.sl 1 (List.map encS (o1))], Ob.row 53 3 (List.map encOp (x34)), Ob.var 57 [AV.int .i64 (x1.f_Op), AV.int .i64 (x1.f_N), AV.str (x1.f_Name), AV.str (x1.f_In), AV.int .i64 (x1.f_At)], Ob.var 74 [AV.int .i64 ((y4).1), AV.nilf]]) (fun v => (AV.int .i64 ((v).1), [Ob.var 87 [AV.sl 5 (List.map c_api_Node (m_l)), AV.func 27 [] [AV.ptr 1 0], AV.row 2 (List.length ((v).2.1)), AV.bool ((v).2.2)], Ob.var 23 [AV.sl 1 (List.map encS (o1))], Ob.row 53 3 (List.map encOp ((v).2.1))])) (fun k s => code_maker_node_L0 n (m_code_maker_node n) m_l o1 y4 k ((s).1) ((s).2.1) ((s).2.2.1) ((s).2.2.2)) (fun s => rfl) o27 ?_ n (IntKind.i64.wrap (v1_i + 1), 0, m_ok, m_out) (fun _ => 0) _ _ ho27 ?_ (by first | rfl | (simp only [ls, List.map_append, List.map_cons, List.map_nil, List.append_nil, List.length_set, length_copyL] <;> rfl)) (by first | rfl | (simp only [ls, List.map_append, List.map_cons, List.map_nil, List.append_nil, List.length_set, length_copyL] <;> rfl))
      · intro k20 ss a21 K22 cont23 hK24 hcont25 hm hr26
        obtain ⟨s16, s17, s18, s19⟩ := ss
        replace hm : code_maker_node_L0 n (m_code_maker_node n) m_l o1 y4 (k20 + 1) s16 s17 s18 s19 = some o27 := hm
        rw [code_maker_node_L0] at hm
        conv => lhs; whnf
        refine bif_or2 hm ?_ ?_ <;> clear hm <;> intro hc28 hm
        · simp only [hc28, ls]
          conv => lhs; whnf
          refine bind_some2 hm ?_; clear hm; intro y29 hy29 hm
          have hk30 : call false 45 [AV.ptr 0 0, AV.int .i64 (s16)] [Ob.var 87 [AV.sl 5 (List.map c_api_Node (m_l)), AV.func 27 [] [AV.ptr 1 0], AV.row 2 (List.length (s19)), AV.bool (s18)], Ob.var 23 [AV.sl 1 (List.map encS (o1))], Ob.row 53 3 (List.map encOp (s19))] = some (AV.int .i64 ((y29).1), [Ob.var 87 [AV.sl 5 (List.map c_api_Node (m_l)), AV.func 27 [] [AV.ptr 1 0], AV.row 2 (List.length ((y29).2.1)), AV.bool ((y29).2.2)], Ob.var 23 [AV.sl 1 (List.map encS (o1))], Ob.row 53 3 (List.map encOp ((y29).2.1))]) := (hc _ _ _).trans (ih_code_maker_node s16 m_l s19 s18 o1 y29 hy29)
          try simp only [List.drop_zero, ls]
          first | simp only [hk30] | rewrite [hk30]
          try simp only [ls]
          conv => lhs; whnf
          exact cq (hcont25 ((y29).1, IntKind.i64.wrap (s17 + 1), (y29).2.2, (y29).2.1) (fun _ => 0) hm)
        · simp only [hc28, ls]
          conv => lhs; whnf
          have hq := Option.some.inj hm; clear hm; subst hq
          exact kq (hr26 (fun _ => 0))
      · cases o27 with
        | ret v =>
          have hq := Option.some.inj hm; clear hm; subst hq
          rfl
        | out t =>
          obtain ⟨x32, x33, x34⟩ := t
          intro a31
          dsimp only at hm
          conv => lhs; whnf
          refine chk_some2 hm ?_; clear hm; intro hc37 hm
          refine bif_pos (app_row hc37 (by first | rfl | simp only [List.length_map]) (by first | rfl | simp only [List.length_map]) (by first | rfl | simp only [List.length_map, take_map_len]) (by kernel_rfl)) ?_
          try simp only [lt]
          have hp35 : (List.map encOp (x34) : List (List AV)) ++ [[AV.int .i64 (x1.f_Op), AV.int .i64 (0), AV.int .i64 (0)]] = List.map encOp (x34 ++ ([(⟨x1.f_Op, 0, 0⟩ : OpS)] : List OpS)) := by first | rfl | (rw [List.map_append]; rfl) | (rw [List.map_append]; done) | (simp only [List.map_append, List.map_cons, List.map_nil, List.nil_append, encOp] <;> rfl)
          have hl36 : List.length (List.map encOp (x34) : List (List AV)) + List.length ([[AV.int .i64 (x1.f_Op), AV.int .i64 (0), AV.int .i64 (0)]] : List (List AV)) = List.length (x34 ++ ([(⟨x1.f_Op, 0, 0⟩ : OpS)] : List OpS)) := by simp only [List.length_map, List.length_append] <;> rfl
          have hl36_b : List.length x34 + List.length ([[AV.int .i64 (x1.f_Op), AV.int .i64 (0), AV.int .i64 (0)]] : List (List AV)) = List.length (x34 ++ ([(⟨x1.f_Op, 0, 0⟩ : OpS)] : List OpS)) := by simp only [List.length_map, List.length_append] <;> rfl
          have hl36_c : List.length x34 + List.length ([(⟨x1.f_Op, 0, 0⟩ : OpS)] : List OpS) = List.length (x34 ++ ([(⟨x1.f_Op, 0, 0⟩ : OpS)] : List OpS)) := by simp only [List.length_map, List.length_append] <;> rfl
          first | simp only [hp35, hl36] | (simp only [List.length_map, take_map_len]; simp only [hp35, hl36_b, hl36_c])
          try simp only [ls]
          conv => lhs; whnf
          have hq := Option.some.inj hm; clear hm; subst hq
          try simp only [ls]
          exact fq (y := some (AV.int .i64 (x32), [Ob.var 87 [AV.sl 5 (List.map c_api_Node (m_l)), AV.func 27 [] [AV.ptr 1 0], AV.row 2 (List.length ((x34 ++ ([(⟨x1.f_Op, 0, 0⟩ : OpS)] : List OpS)))), AV.bool (x33)], Ob.var 23 [AV.sl 1 (List.map encS (o1))], Ob.row 53 3 (List.map encOp (x34 ++ ([(⟨x1.f_Op, 0, 0⟩ : OpS)] : List OpS)))]))
    · simp only [hc15, ls]
      conv => lhs; whnf
      refine bind_some2 hm ?_; clear hm; intro y39 hy39 hm
      have hk40 : call false 27 [AV.agg [AV.int .i64 (x1.f_Op), AV.int .i64 (x1.f_N), AV.str (x1.f_Name), AV.str (x1.f_In), AV.int .i64 (x1.f_At)], AV.ptr 0 0] [Ob.var 23 [AV.sl 1 (List.map encS (o1))]] = some (AV.tup [AV.agg [AV.int .i64 ((y39).1.op), AV.int .i64 ((y39).1.n), AV.int .i64 ((y39).1.t)], AV.bool ((y39).2)], [Ob.var 23 [AV.sl 1 (List.map encS (o1))]]) := (hc _ _ _).trans (ok_code_Thread_1 n x1 o1 y39 hy39)
      try simp only [List.drop_zero, ls]
      first | simp only [hk40] | rewrite [hk40]
      try simp only [ls]
      conv => lhs; whnf
      refine bif_or2 hm ?_ ?_ <;> clear hm <;> intro hc41 hm
      · simp only [hc41, ls]
        conv => lhs; whnf
        refine chk_some2 hm ?_; clear hm; intro hc44 hm
        refine bif_pos (app_row hc44 (by first | rfl | simp only [List.length_map]) (by first | rfl | simp only [List.length_map]) (by first | rfl | simp only [List.length_map, take_map_len]) (by kernel_rfl)) ?_
        try simp only [lt]
        have hp42 : (List.map encOp (m_out) : List (List AV)) ++ [[AV.int .i64 ((y39).1.op), AV.int .i64 ((y39).1.n), AV.int .i64 ((y39).1.t)]] = List.map encOp (m_out ++ ([(y39).1] : List OpS)) := by first | rfl | (rw [List.map_append]; rfl) | (rw [List.map_append]; done) | (simp only [List.map_append, List.map_cons, List.map_nil, List.nil_append, encOp] <;> rfl)
        have hl43 : List.length (List.map encOp (m_out) : List (List AV)) + List.length ([[AV.int .i64 ((y39).1.op), AV.int .i64 ((y39).1.n), AV.int .i64 ((y39).1.t)]] : List (List AV)) = List.length (m_out ++ ([(y39).1] : List OpS)) := by simp only [List.length_map, List.length_append] <;> rfl
        have hl43_b : List.length m_out + List.length ([[AV.int .i64 ((y39).1.op), AV.int .i64 ((y39).1.n), AV.int .i64 ((y39).1.t)]] : List (List AV)) = List.length (m_out ++ ([(y39).1] : List OpS)) := by simp only [List.length_map, List.length_append] <;> rfl
        have hl43_c : List.length m_out + List.length ([(y39).1] : List OpS) = List.length (m_out ++ ([(y39).1] : List OpS)) := by simp only [List.length_map, List.length_append] <;> rfl
        first | simp only [hp42, hl43] | (simp only [List.length_map, take_map_len]; simp only [hp42, hl43_b, hl43_c])
        try simp only [ls]
        conv => lhs; whnf
        have hq := Option.some.inj hm; clear hm; subst hq
        try simp only [ls]
        exact fq (y := some (AV.int .i64 (IntKind.i64.wrap (v1_i + 1)), [Ob.var 87 [AV.sl 5 (List.map c_api_Node (m_l)), AV.func 27 [] [AV.ptr 1 0], AV.row 2 (List.length ((m_out ++ ([(y39).1] : List OpS)))), AV.bool ((y39).2)], Ob.var 23 [AV.sl 1 (List.map encS (o1))], Ob.row 53 3 (List.map encOp (m_out ++ ([(y39).1] : List OpS)))]))
      · simp only [hc41, ls]
        conv => lhs; whnf
        refine chk_some2 hm ?_; clear hm; intro hc47 hm
        refine bif_pos (app_row hc47 (by first | rfl | simp only [List.length_map]) (by first | rfl | simp only [List.length_map]) (by first | rfl | simp only [List.length_map, take_map_len]) (by kernel_rfl)) ?_
        try simp only [lt]
        have hp45 : (List.map encOp (m_out) : List (List AV)) ++ [[AV.int .i64 ((y39).1.op), AV.int .i64 ((y39).1.n), AV.int .i64 ((y39).1.t)]] = List.map encOp (m_out ++ ([(y39).1] : List OpS)) := by first | rfl | (rw [List.map_append]; rfl) | (rw [List.map_append]; done) | (simp only [List.map_append, List.map_cons, List.map_nil, List.nil_append, encOp] <;> rfl)
        have hl46 : List.length (List.map encOp (m_out) : List (List AV)) + List.length ([[AV.int .i64 ((y39).1.op), AV.int .i64 ((y39).1.n), AV.int .i64 ((y39).1.t)]] : List (List AV)) = List.length (m_out ++ ([(y39).1] : List OpS)) := by simp only [List.length_map, List.length_append] <;> rfl
        have hl46_b : List.length m_out + List.length ([[AV.int .i64 ((y39).1.op), AV.int .i64 ((y39).1.n), AV.int .i64 ((y39).1.t)]] : List (List AV)) = List.length (m_out ++ ([(y39).1] : List OpS)) := by simp only [List.length_map, List.length_append] <;> rfl
        have hl46_c : List.length m_out + List.length ([(y39).1] : List OpS) = List.length (m_out ++ ([(y39).1] : List OpS)) := by simp only [List.length_map, List.length_append] <;> rfl
        first | simp only [hp45, hl46] | (simp only [List.length_map, take_map_len]; simp only [hp45, hl46_b, hl46_c])
        try simp only [ls]
        conv => lhs; whnf
        have hq := Option.some.inj hm; clear hm; subst hq
        try simp only [ls]
        exact fq (y := some (AV.int .i64 (IntKind.i64.wrap (v1_i + 1)), [Ob.var 87 [AV.sl 5 (List.map c_api_Node (m_l)), AV.func 27 [] [AV.ptr 1 0], AV.row 2 (List.length ((m_out ++ ([(y39).1] : List OpS)))), AV.bool (false)], Ob.var 23 [AV.sl 1 (List.map encS (o1))], Ob.row 53 3 (List.map encOp (m_out ++ ([(y39).1] : List OpS)))]))
  | c1 y5 =>
    dsimp only at hm
    have hk3 : call false 37 [AV.int .i64 (x1.f_Op)] [] = some (AV.tup [AV.agg [AV.int .i64 ((y5).1), AV.func 59 [] []], AV.bool ((y5).2)], []) := (hc _ _ _).trans (ok_code_of n x1.f_Op (.c1 y5) hy2)
    try simp only [List.drop_zero, ls]
    first | simp only [hk3] | rewrite [hk3]
    try simp only [ls]
    conv => lhs; whnf
    refine bif_or2 hm ?_ ?_ <;> clear hm <;> intro hc48 hm
    · simp only [hc48, ls]
      conv => lhs; whnf
      refine bind_some2 hm ?_; clear hm; intro o60 ho60 hm
      refine rounds_sim (σ := (Int × Int × Bool × (List OpS))) (τ := (Int × Bool × (List OpS))) (ν := (Int × (List OpS) × Bool)) 0 (fun (s49, s50, s51, s52) a54 => stOf 80 [(0, AV.ptr 0 0), (5, AV.ptr 3 0), (10, AV.int .i64 (s49)), (60, AV.int .i64 ((y5).1)), (61, AV.int .i64 (s50))]) (fun (s49, s50, s51, s52) a54 => [Ob.var 87 [AV.sl 5 (List.map c_api_Node (m_l)), AV.func 27 [] [AV.ptr 1 0], AV.row 2 (List.length (s52)), AV.bool (s51)], Ob.var 23 [AV.sl 1 (List.map encS (o1))], Ob.row 53 3 (List.map encOp (s52)), Ob.var 57 [AV.int .i64 (x1.f_Op), AV.int .i64 (x1.f_N), AV.str (x1.f_Name), AV.str (x1.f_In), AV.int .i64 (x1.f_At)], Ob.var 74 [AV.int .i64 ((y5).1), AV.func 59 [] []]]) (fun (x65, x66, x67) a64 => stOf 80 [(0, AV.ptr 0 0), (5, AV.ptr 3 0), (10, AV.int .i64 (x65))]) (fun (x65, x66, x67) a64 => [Ob.var 87 [AV.sl 5 (List.map c_api_Node (m_l)), AV.func 27 [] [AV.ptr 1 0], AV.row 2 (List.length (x67)), AV.bool (x66)], Ob.var 23 [AV.sl 1 (List.map encS (o1))], Ob.row 53 3 (List.map encOp (x67)), Ob.var 57 [AV.int .i64 (x1.f_Op), AV.int .i64 (x1.f_N), AV.str (x1.f_Name), AV.str (x1.f_In), AV.int .i64 (x1.f_At)], Ob.var 74 [AV.int .i64 ((y5).1), AV.func 59 [] []]]) (fun v => (AV.int .i64 ((v).1), [Ob.var 87 [AV.sl 5 (List.map c_api_Node (m_l)), AV.func 27 [] [AV.ptr 1 0], AV.row 2 (List.length ((v).2.1)), AV.bool ((v).2.2)], Ob.var 23 [AV.sl 1 (List.map encS (o1))], Ob.row 53 3 (List.map encOp ((v).2.1))])) (fun k s => code_maker_node_L1 n (m_code_maker_node n) m_l o1 y5 k ((s).1) ((s).2.1) ((s).2.2.1) ((s).2.2.2)) (fun s => rfl) o60 ?_ n (IntKind.i64.wrap (v1_i + 1), 0, m_ok, m_out) (fun _ => 0) _ _ ho60 ?_ (by first | rfl | (simp only [ls, List.map_append, List.map_cons, List.map_nil, List.append_nil, List.length_set, length_copyL] <;> rfl)) (by first | rfl | (simp only [ls, List.map_append, List.map_cons, List.map_nil, List.append_nil, List.length_set, length_copyL] <;> rfl))
      · intro k53 ss a54 K55 cont56 hK57 hcont58 hm hr59
        obtain ⟨s49, s50, s51, s52⟩ := ss
        replace hm : code_maker_node_L1 n (m_code_maker_node n) m_l o1 y5 (k53 + 1) s49 s50 s51 s52 = some o60 := hm
        rw [code_maker_node_L1] at hm
        conv => lhs; whnf
        refine bif_or2 hm ?_ ?_ <;> clear hm <;> intro hc61 hm
        · simp only [hc61, ls]
          conv => lhs; whnf
          refine bind_some2 hm ?_; clear hm; intro y62 hy62 hm
          have hk63 : call false 45 [AV.ptr 0 0, AV.int .i64 (s49)] [Ob.var 87 [AV.sl 5 (List.map c_api_Node (m_l)), AV.func 27 [] [AV.ptr 1 0], AV.row 2 (List.length (s52)), AV.bool (s51)], Ob.var 23 [AV.sl 1 (List.map encS (o1))], Ob.row 53 3 (List.map encOp (s52))] = some (AV.int .i64 ((y62).1), [Ob.var 87 [AV.sl 5 (List.map c_api_Node (m_l)), AV.func 27 [] [AV.ptr 1 0], AV.row 2 (List.length ((y62).2.1)), AV.bool ((y62).2.2)], Ob.var 23 [AV.sl 1 (List.map encS (o1))], Ob.row 53 3 (List.map encOp ((y62).2.1))]) := (hc _ _ _).trans (ih_code_maker_node s49 m_l s52 s51 o1 y62 hy62)
          try simp only [List.drop_zero, ls]
          first | simp only [hk63] | rewrite [hk63]
          try simp only [ls]
          conv => lhs; whnf
          exact cq (hcont58 ((y62).1, IntKind.i64.wrap (s50 + 1), (y62).2.2, (y62).2.1) (fun _ => 0) hm)
        · simp only [hc61, ls]
          conv => lhs; whnf
          have hq := Option.some.inj hm; clear hm; subst hq
          exact kq (hr59 (fun _ => 0))
      · cases o60 with
        | ret v =>
          have hq := Option.some.inj hm; clear hm; subst hq
          rfl
        | out t =>
          obtain ⟨x65, x66, x67⟩ := t
          intro a64
          dsimp only at hm
          conv => lhs; whnf
          refine chk_some2 hm ?_; clear hm; intro hc70 hm
          refine bif_pos (app_row hc70 (by first | rfl | simp only [List.length_map]) (by first | rfl | simp only [List.length_map]) (by first | rfl | simp only [List.length_map, take_map_len]) (by kernel_rfl)) ?_
          try simp only [lt]
          have hp68 : (List.map encOp (x67) : List (List AV)) ++ [[AV.int .i64 (x1.f_Op), AV.int .i64 (0), AV.int .i64 (0)]] = List.map encOp (x67 ++ ([(⟨x1.f_Op, 0, 0⟩ : OpS)] : List OpS)) := by first | rfl | (rw [List.map_append]; rfl) | (rw [List.map_append]; done) | (simp only [List.map_append, List.map_cons, List.map_nil, List.nil_append, encOp] <;> rfl)
          have hl69 : List.length (List.map encOp (x67) : List (List AV)) + List.length ([[AV.int .i64 (x1.f_Op), AV.int .i64 (0), AV.int .i64 (0)]] : List (List AV)) = List.length (x67 ++ ([(⟨x1.f_Op, 0, 0⟩ : OpS)] : List OpS)) := by simp only [List.length_map, List.length_append] <;> rfl
          have hl69_b : List.length x67 + List.length ([[AV.int .i64 (x1.f_Op), AV.int .i64 (0), AV.int .i64 (0)]] : List (List AV)) = List.length (x67 ++ ([(⟨x1.f_Op, 0, 0⟩ : OpS)] : List OpS)) := by simp only [List.length_map, List.length_append] <;> rfl
          have hl69_c : List.length x67 + List.length ([(⟨x1.f_Op, 0, 0⟩ : OpS)] : List OpS) = List.length (x67 ++ ([(⟨x1.f_Op, 0, 0⟩ : OpS)] : List OpS)) := by simp only [List.length_map, List.length_append] <;> rfl
          first | simp only [hp68, hl69] | (simp only [List.length_map, take_map_len]; simp only [hp68, hl69_b, hl69_c])
          try simp only [ls]
          conv => lhs; whnf
          have hq := Option.some.inj hm; clear hm; subst hq
          try simp only [ls]
          exact fq (y := some (AV.int .i64 (x65), [Ob.var 87 [AV.sl 5 (List.map c_api_Node (m_l)), AV.func 27 [] [AV.ptr 1 0], AV.row 2 (List.length ((x67 ++ ([(⟨x1.f_Op, 0, 0⟩ : OpS)] : List OpS)))), AV.bool (x66)], Ob.var 23 [AV.sl 1 (List.map encS (o1))], Ob.row 53 3 (List.map encOp (x67 ++ ([(⟨x1.f_Op, 0, 0⟩ : OpS)] : List OpS)))]))
    · simp only [hc48, ls]
      conv => lhs; whnf
      refine bind_some2 hm ?_; clear hm; intro y72 hy72 hm
      have hk73 : call false 27 [AV.agg [AV.int .i64 (x1.f_Op), AV.int .i64 (x1.f_N), AV.str (x1.f_Name), AV.str (x1.f_In), AV.int .i64 (x1.f_At)], AV.ptr 0 0] [Ob.var 23 [AV.sl 1 (List.map encS (o1))]] = some (AV.tup [AV.agg [AV.int .i64 ((y72).1.op), AV.int .i64 ((y72).1.n), AV.int .i64 ((y72).1.t)], AV.bool ((y72).2)], [Ob.var 23 [AV.sl 1 (List.map encS (o1))]]) := (hc _ _ _).trans (ok_code_Thread_1 n x1 o1 y72 hy72)
      try simp only [List.drop_zero, ls]
      first | simp only [hk73] | rewrite [hk73]
      try simp only [ls]
      conv => lhs; whnf
      refine bif_or2 hm ?_ ?_ <;> clear hm <;> intro hc74 hm
      · simp only [hc74, ls]
        conv => lhs; whnf
        refine chk_some2 hm ?_; clear hm; intro hc77 hm
        refine bif_pos (app_row hc77 (by first | rfl | simp only [List.length_map]) (by first | rfl | simp only [List.length_map]) (by first | rfl | simp only [List.length_map, take_map_len]) (by kernel_rfl)) ?_
        try simp only [lt]
        have hp75 : (List.map encOp (m_out) : List (List AV)) ++ [[AV.int .i64 ((y72).1.op), AV.int .i64 ((y72).1.n), AV.int .i64 ((y72).1.t)]] = List.map encOp (m_out ++ ([(y72).1] : List OpS)) := by first | rfl | (rw [List.map_append]; rfl) | (rw [List.map_append]; done) | (simp only [List.map_append, List.map_cons, List.map_nil, List.nil_append, encOp] <;> rfl)
        have hl76 : List.length (List.map encOp (m_out) : List (List AV)) + List.length ([[AV.int .i64 ((y72).1.op), AV.int .i64 ((y72).1.n), AV.int .i64 ((y72).1.t)]] : List (List AV)) = List.length (m_out ++ ([(y72).1] : List OpS)) := by simp only [List.length_map, List.length_append] <;> rfl
        have hl76_b : List.length m_out + List.length ([[AV.int .i64 ((y72).1.op), AV.int .i64 ((y72).1.n), AV.int .i64 ((y72).1.t)]] : List (List AV)) = List.length (m_out ++ ([(y72).1] : List OpS)) := by simp only [List.length_map, List.length_append] <;> rfl
        have hl76_c : List.length m_out + List.length ([(y72).1] : List OpS) = List.length (m_out ++ ([(y72).1] : List OpS)) := by simp only [List.length_map, List.length_append] <;> rfl
        first | simp only [hp75, hl76] | (simp only [List.length_map, take_map_len]; simp only [hp75, hl76_b, hl76_c])
        try simp only [ls]
        conv => lhs; whnf
        have hq := Option.some.inj hm; clear hm; subst hq
        try simp only [ls]
        exact fq (y := some (AV.int .i64 (IntKind.i64.wrap (v1_i + 1)), [Ob.var 87 [AV.sl 5 (List.map c_api_Node (m_l)), AV.func 27 [] [AV.ptr 1 0], AV.row 2 (List.length ((m_out ++ ([(y72).1] : List OpS)))), AV.bool ((y72).2)], Ob.var 23 [AV.sl 1 (List.map encS (o1))], Ob.row 53 3 (List.map encOp (m_out ++ ([(y72).1] : List OpS)))]))
      · simp only [hc74, ls]
        conv => lhs; whnf
        refine chk_some2 hm ?_; clear hm; intro hc80 hm
        refine bif_pos (app_row hc80 (by first | rfl | simp only [List.length_map]) (by first | rfl | simp only [List.length_map]) (by first | rfl | simp only [List.length_map, take_map_len]) (by kernel_rfl)) ?_
        try simp only [lt]
        have hp78 : (List.map encOp (m_out) : List (List AV)) ++ [[AV.int .i64 ((y72).1.op), AV.int .i64 ((y72).1.n), AV.int .i64 ((y72).1.t)]] = List.map encOp (m_out ++ ([(y72).1] : List OpS)) := by first | rfl | (rw [List.map_append]; rfl) | (rw [List.map_append]; done) | (simp only [List.map_append, List.map_cons, List.map_nil, List.nil_append, encOp] <;> rfl)
        have hl79 : List.length (List.map encOp (m_out) : List (List AV)) + List.length ([[AV.int .i64 ((y72).1.op), AV.int .i64 ((y72).1.n), AV.int .i64 ((y72).1.t)]] : List (List AV)) = List.length (m_out ++ ([(y72).1] : List OpS)) := by simp only [List.length_map, List.length_append] <;> rfl
        have hl79_b : List.length m_out + List.length ([[AV.int .i64 ((y72).1.op), AV.int .i64 ((y72).1.n), AV.int .i64 ((y72).1.t)]] : List (List AV)) = List.length (m_out ++ ([(y72).1] : List OpS)) := by simp only [List.length_map, List.length_append] <;> rfl
        have hl79_c : List.length m_out + List.length ([(y72).1] : List OpS) = List.length (m_out ++ ([(y72).1] : List OpS)) := by simp only [List.length_map, List.length_append] <;> rfl
        first | simp only [hp78, hl79] | (simp only [List.length_map, take_map_len]; simp only [hp78, hl79_b, hl79_c])
        try simp only [ls]
        conv => lhs; whnf
        have hq := Option.some.inj hm; clear hm; subst hq
        try simp only [ls]
        exact fq (y := some (AV.int .i64 (IntKind.i64.wrap (v1_i + 1)), [Ob.var 87 [AV.sl 5 (List.map c_api_Node (m_l)), AV.func 27 [] [AV.ptr 1 0], AV.row 2 (List.length ((m_out ++ ([(y72).1] : List OpS)))), AV.bool (false)], Ob.var 23 [AV.sl 1 (List.map encS (o1))], Ob.row 53 3 (List.map encOp (m_out ++ ([(y72).1] : List OpS)))]))
  | c2 y6 =>
    dsimp only at hm
    have hk3 : call false 37 [AV.int .i64 (x1.f_Op)] [] = some (AV.tup [AV.agg [AV.int .i64 ((y6).1), AV.func 58 [] []], AV.bool ((y6).2)], []) := (hc _ _ _).trans (ok_code_of n x1.f_Op (.c2 y6) hy2)
    try simp only [List.drop_zero, ls]
    first | simp only [hk3] | rewrite [hk3]
    try simp only [ls]
    conv => lhs; whnf
    refine bif_or2 hm ?_ ?_ <;> clear hm <;> intro hc81 hm
    · simp only [hc81, ls]
      conv => lhs; whnf
      refine bind_some2 hm ?_; clear hm; intro o93 ho93 hm
      refine rounds_sim (σ := (Int × Int × Bool × (List OpS))) (τ := (Int × Bool × (List OpS))) (ν := (Int × (List OpS) × Bool)) 0 (fun (s82, s83, s84, s85) a87 => stOf 80 [(0, AV.ptr 0 0), (5, AV.ptr 3 0), (10, AV.int .i64 (s82)), (60, AV.int .i64 ((y6).1)), (61, AV.int .i64 (s83))]) (fun (s82, s83, s84, s85) a87 => [Ob.var 87 [AV.sl 5 (List.map c_api_Node (m_l)), AV.func 27 [] [AV.ptr 1 0], AV.row 2 (List.length (s85)), AV.bool (s84)], Ob.var 23 [AV.sl 1 (List.map encS (o1))], Ob.row 53 3 (List.map encOp (s85)), Ob.var 57 [AV.int .i64 (x1.f_Op), AV.int .i64 (x1.f_N), AV.str (x1.f_Name), AV.str (x1.f_In), AV.int .i64 (x1.f_At)], Ob.var 74 [AV.int .i64 ((y6).1), AV.func 58 [] []]]) (fun (x98, x99, x100) a97 => stOf 80 [(0, AV.ptr 0 0), (5, AV.ptr 3 0), (10, AV.int .i64 (x98))]) (fun (x98, x99, x100) a97 => [Ob.var 87 [AV.sl 5 (List.map c_api_Node (m_l)), AV.func 27 [] [AV.ptr 1 0], AV.row 2 (List.length (x100)), AV.bool (x99)], Ob.var 23 [AV.sl 1 (List.map encS (o1))], Ob.row 53 3 (List.map encOp (x100)), Ob.var 57 [AV.int .i64 (x1.f_Op), AV.int .i64 (x1.f_N), AV.str (x1.f_Name), AV.str (x1.f_In), AV.int .i64 (x1.f_At)], Ob.var 74 [AV.int .i64 ((y6).1), AV.func 58 [] []]]) (fun v => (AV.int .i64 ((v).1), [Ob.var 87 [AV.sl 5 (List.map c_api_Node (m_l)), AV.func 27 [] [AV.ptr 1 0], AV.row 2 (List.length ((v).2.1)), AV.bool ((v).2.2)], Ob.var 23 [AV.sl 1 (List.map encS (o1))], Ob.row 53 3 (List.map encOp ((v).2.1))])) (fun k s => code_maker_node_L2 n (m_code_maker_node n) m_l o1 y6 k ((s).1) ((s).2.1) ((s).2.2.1) ((s).2.2.2)) (fun s => rfl) o93 ?_ n (IntKind.i64.wrap (v1_i + 1), 0, m_ok, m_out) (fun _ => 0) _ _ ho93 ?_ (by first | rfl | (simp only [ls, List.map_append, List.map_cons, List.map_nil, List.append_nil, List.length_set, length_copyL] <;> rfl)) (by first | rfl | (simp only [ls, List.map_append, List.map_cons, List.map_nil, List.append_nil, List.length_set, length_copyL] <;> rfl))
      · intro k86 ss a87 K88 cont89 hK90 hcont91 hm hr92
        obtain ⟨s82, s83, s84, s85⟩ := ss
        replace hm : code_maker_node_L2 n (m_code_maker_node n) m_l o1 y6 (k86 + 1) s82 s83 s84 s85 = some o93 := hm
        rw [code_maker_node_L2] at hm
        conv => lhs; whnf
        refine bif_or2 hm ?_ ?_ <;> clear hm <;> intro hc94 hm
        · simp only [hc94, ls]
          conv => lhs; whnf
          refine bind_some2 hm ?_; clear hm; intro y95 hy95 hm
          have hk96 : call false 45 [AV.ptr 0 0, AV.int .i64 (s82)] [Ob.var 87 [AV.sl 5 (List.map c_api_Node (m_l)), AV.func 27 [] [AV.ptr 1 0], AV.row 2 (List.length (s85)), AV.bool (s84)], Ob.var 23 [AV.sl 1 (List.map encS (o1))], Ob.row 53 3 (List.map encOp (s85))] = some (AV.int .i64 ((y95).1), [Ob.var 87 [AV.sl 5 (List.map c_api_Node (m_l)), AV.func 27 [] [AV.ptr 1 0], AV.row 2 (List.length ((y95).2.1)), AV.bool ((y95).2.2)], Ob.var 23 [AV.sl 1 (List.map encS (o1))], Ob.row 53 3 (List.map encOp ((y95).2.1))]) := (hc _ _ _).trans (ih_code_maker_node s82 m_l s85 s84 o1 y95 hy95)
          try simp only [List.drop_zero, ls]
          first | simp only [hk96] | rewrite [hk96]
          try simp only [ls]
          conv => lhs; whnf
          exact cq (hcont91 ((y95).1, IntKind.i64.wrap (s83 + 1), (y95).2.2, (y95).2.1) (fun _ => 0) hm)
        · simp only [hc94, ls]
          conv => lhs; whnf
          have hq := Option.some.inj hm; clear hm; subst hq
          exact kq (hr92 (fun _ => 0))
      · cases o93 with
        | ret v =>
          have hq := Option.some.inj hm; clear hm; subst hq
          rfl
        | out t =>
          obtain ⟨x98, x99, x100⟩ := t
          intro a97
          dsimp only at hm
          conv => lhs; whnf
          refine chk_some2 hm ?_; clear hm; intro hc103 hm
          refine bif_pos (app_row hc103 (by first | rfl | simp only [List.length_map]) (by first | rfl | simp only [List.length_map]) (by first | rfl | simp only [List.length_map, take_map_len]) (by kernel_rfl)) ?_
          try simp only [lt]
          have hp101 : (List.map encOp (x100) : List (List AV)) ++ [[AV.int .i64 (x1.f_Op), AV.int .i64 (0), AV.int .i64 (0)]] = List.map encOp (x100 ++ ([(⟨x1.f_Op, 0, 0⟩ : OpS)] : List OpS)) := by first | rfl | (rw [List.map_append]; rfl) | (rw [List.map_append]; done) | (simp only [List.map_append, List.map_cons, List.map_nil, List.nil_append, encOp] <;> rfl)
          have hl102 : List.length (List.map encOp (x100) : List (List AV)) + List.length ([[AV.int .i64 (x1.f_Op), AV.int .i64 (0), AV.int .i64 (0)]] : List (List AV)) = List.length (x100 ++ ([(⟨x1.f_Op, 0, 0⟩ : OpS)] : List OpS)) := by simp only [List.length_map, List.length_append] <;> rfl
          have hl102_b : List.length x100 + List.length ([[AV.int .i64 (x1.f_Op), AV.int .i64 (0), AV.int .i64 (0)]] : List (List AV)) = List.length (x100 ++ ([(⟨x1.f_Op, 0, 0⟩ : OpS)] : List OpS)) := by simp only [List.length_map, List.length_append] <;> rfl
          have hl102_c : List.length x100 + List.length ([(⟨x1.f_Op, 0, 0⟩ : OpS)] : List OpS) = List.length (x100 ++ ([(⟨x1.f_Op, 0, 0⟩ : OpS)] : List OpS)) := by simp only [List.length_map, List.length_append] <;> rfl
          first | simp only [hp101, hl102] | (simp only [List.length_map, take_map_len]; simp only [hp101, hl102_b, hl102_c])
          try simp only [ls]
          conv => lhs; whnf
          have hq := Option.some.inj hm; clear hm; subst hq
          try simp only [ls]
          exact fq (y := some (AV.int .i64 (x98), [Ob.var 87 [AV.sl 5 (List.map c_api_Node (m_l)), AV.func 27 [] [AV.ptr 1 0], AV.row 2 (List.length ((x100 ++ ([(⟨x1.f_Op, 0, 0⟩ : OpS)] : List OpS)))), AV.bool (x99)], Ob.var 23 [AV.sl 1 (List.map encS (o1))], Ob.row 53 3 (List.map encOp (x100 ++ ([(⟨x1.f_Op, 0, 0⟩ : OpS)] : List OpS)))]))
    · simp only [hc81, ls]
      conv => lhs; whnf
      refine bind_some2 hm ?_; clear hm; intro y105 hy105 hm
      have hk106 : call false 27 [AV.agg [AV.int .i64 (x1.f_Op), AV.int .i64 (x1.f_N), AV.str (x1.f_Name), AV.str (x1.f_In), AV.int .i64 (x1.f_At)], AV.ptr 0 0] [Ob.var 23 [AV.sl 1 (List.map encS (o1))]] = some (AV.tup [AV.agg [AV.int .i64 ((y105).1.op), AV.int .i64 ((y105).1.n), AV.int .i64 ((y105).1.t)], AV.bool ((y105).2)], [Ob.var 23 [AV.sl 1 (List.map encS (o1))]]) := (hc _ _ _).trans (ok_code_Thread_1 n x1 o1 y105 hy105)
      try simp only [List.drop_zero, ls]
      first | simp only [hk106] | rewrite [hk106]
      try simp only [ls]
      conv => lhs; whnf
      refine bif_or2 hm ?_ ?_ <;> clear hm <;> intro hc107 hm
      · simp only [hc107, ls]
        conv => lhs; whnf
        refine chk_some2 hm ?_; clear hm; intro hc110 hm
        refine bif_pos (app_row hc110 (by first | rfl | simp only [List.length_map]) (by first | rfl | simp only [List.length_map]) (by first | rfl | simp only [List.length_map, take_map_len]) (by kernel_rfl)) ?_
        try simp only [lt]
        have hp108 : (List.map encOp (m_out) : List (List AV)) ++ [[AV.int .i64 ((y105).1.op), AV.int .i64 ((y105).1.n), AV.int .i64 ((y105).1.t)]] = List.map encOp (m_out ++ ([(y105).1] : List OpS)) := by first | rfl | (rw [List.map_append]; rfl) | (rw [List.map_append]; done) | (simp only [List.map_append, List.map_cons, List.map_nil, List.nil_append, encOp] <;> rfl)
        have hl109 : List.length (List.map encOp (m_out) : List (List AV)) + List.length ([[AV.int .i64 ((y105).1.op), AV.int .i64 ((y105).1.n), AV.int .i64 ((y105).1.t)]] : List (List AV)) = List.length (m_out ++ ([(y105).1] : List OpS)) := by simp only [List.length_map, List.length_append] <;> rfl
        have hl109_b : List.length m_out + List.length ([[AV.int .i64 ((y105).1.op), AV.int .i64 ((y105).1.n), AV.int .i64 ((y105).1.t)]] : List (List AV)) = List.length (m_out ++ ([(y105).1] : List OpS)) := by simp only [List.length_map, List.length_append] <;> rfl
        have hl109_c : List.length m_out + List.length ([(y105).1] : List OpS) = List.length (m_out ++ ([(y105).1] : List OpS)) := by simp only [List.length_map, List.length_append] <;> rfl
        first | simp only [hp108, hl109] | (simp only [List.length_map, take_map_len]; simp only [hp108, hl109_b, hl109_c])
        try simp only [ls]
        conv => lhs; whnf
        have hq := Option.some.inj hm; clear hm; subst hq
        try simp only [ls]
        exact fq (y := some (AV.int .i64 (IntKind.i64.wrap (v1_i + 1)), [Ob.var 87 [AV.sl 5 (List.map c_api_Node (m_l)), AV.func 27 [] [AV.ptr 1 0], AV.row 2 (List.length ((m_out ++ ([(y105).1] : List OpS)))), AV.bool ((y105).2)], Ob.var 23 [AV.sl 1 (List.map encS (o1))], Ob.row 53 3 (List.map encOp (m_out ++ ([(y105).1] : List OpS)))]))
      · simp only [hc107, ls]
        conv => lhs; whnf
        refine chk_some2 hm ?_; clear hm; intro hc113 hm
        refine bif_pos (app_row hc113 (by first | rfl | simp only [List.length_map]) (by first | rfl | simp only [List.length_map]) (by first | rfl | simp only [List.length_map, take_map_len]) (by kernel_rfl)) ?_
        try simp only [lt]
        have hp111 : (List.map encOp (m_out) : List (List AV)) ++ [[AV.int .i64 ((y105).1.op), AV.int .i64 ((y105).1.n), AV.int .i64 ((y105).1.t)]] = List.map encOp (m_out ++ ([(y105).1] : List OpS)) := by first | rfl | (rw [List.map_append]; rfl) | (rw [List.map_append]; done) | (simp only [List.map_append, List.map_cons, List.map_nil, List.nil_append, encOp] <;> rfl)
        have hl112 : List.length (List.map encOp (m_out) : List (List AV)) + List.length ([[AV.int .i64 ((y105).1.op), AV.int .i64 ((y105).1.n), AV.int .i64 ((y105).1.t)]] : List (List AV)) = List.length (m_out ++ ([(y105).1] : List OpS)) := by simp only [List.length_map, List.length_append] <;> rfl
        have hl112_b : List.length m_out + List.length ([[AV.int .i64 ((y105).1.op), AV.int .i64 ((y105).1.n), AV.int .i64 ((y105).1.t)]] : List (List AV)) = List.length (m_out ++ ([(y105).1] : List OpS)) := by simp only [List.length_map, List.length_append] <;> rfl
        have hl112_c : List.length m_out + List.length ([(y105).1] : List OpS) = List.length (m_out ++ ([(y105).1] : List OpS)) := by simp only [List.length_map, List.length_append] <;> rfl
        first | simp only [hp111, hl112] | (simp only [List.length_map, take_map_len]; simp only [hp111, hl112_b, hl112_c])
        try simp only [ls]
        conv => lhs; whnf
        have hq := Option.some.inj hm; clear hm; subst hq
        try simp only [ls]
        exact fq (y := some (AV.int .i64 (IntKind.i64.wrap (v1_i + 1)), [Ob.var 87 [AV.sl 5 (List.map c_api_Node (m_l)), AV.func 27 [] [AV.ptr 1 0], AV.row 2 (List.length ((m_out ++ ([(y105).1] : List OpS)))), AV.bool (false)], Ob.var 23 [AV.sl 1 (List.map encS (o1))], Ob.row 53 3 (List.map encOp (m_out ++ ([(y105).1] : List OpS)))]))
  | c3 y7 =>
    dsimp only at hm
    have hk3 : call false 37 [AV.int .i64 (x1.f_Op)] [] = some (AV.tup [AV.agg [AV.int .i64 ((y7).1), AV.func 57 [] []], AV.bool ((y7).2)], []) := (hc _ _ _).trans (ok_code_of n x1.f_Op (.c3 y7) hy2)
    try simp only [List.drop_zero, ls]
    first | simp only [hk3] | rewrite [hk3]
    try simp only [ls]
    conv => lhs; whnf
    refine bif_or2 hm ?_ ?_ <;> clear hm <;> intro hc114 hm
    · simp only [hc114, ls]
      conv => lhs; whnf
      refine bind_some2 hm ?_; clear hm; intro o126 ho126 hm
      refine rounds_sim (σ := (Int × Int × Bool × (List OpS))) (τ := (Int × Bool × (List OpS))) (ν := (Int × (List OpS) × Bool)) 0 (fun (s115, s116, s117, s118) a120 => stOf 80 [(0, AV.ptr 0 0), (5, AV.ptr 3 0), (10, AV.int .i64 (s115)), (60, AV.int .i64 ((y7).1)), (61, AV.int .i64 (s116))]) (fun (s115, s116, s117, s118) a120 => [Ob.var 87 [AV.sl 5 (List.map c_api_Node (m_l)), AV.func 27 [] [AV.ptr 1 0], AV.row 2 (List.length (s118)), AV.bool (s117)], Ob.var 23 [AV.sl 1 (List.map encS (o1))], Ob.row 53 3 (List.map encOp (s118)), Ob.var 57 [AV.int .i64 (x1.f_Op), AV.int .i64 (x1.f_N), AV.str (x1.f_Name), AV.str (x1.f_In), AV.int .i64 (x1.f_At)], Ob.var 74 [AV.int .i64 ((y7).1), AV.func 57 [] []]]) (fun (x131, x132, x133) a130 => stOf 80 [(0, AV.ptr 0 0), (5, AV.ptr 3 0), (10, AV.int .i64 (x131))]) (fun (x131, x132, x133) a130 => [Ob.var 87 [AV.sl 5 (List.map c_api_Node (m_l)), AV.func 27 [] [AV.ptr 1 0], AV.row 2 (List.length (x133)), AV.bool (x132)], Ob.var 23 [AV.sl 1 (List.map encS (o1))], Ob.row 53 3 (List.map encOp (x133)), Ob.var 57 [AV.int .i64 (x1.f_Op), AV.int .i64 (x1.f_N), AV.str (x1.f_Name), AV.str (x1.f_In), AV.int .i64 (x1.f_At)], Ob.var 74 [AV.int .i64 ((y7).1), AV.func 57 [] []]]) (fun v => (AV.int .i64 ((v).1), [Ob.var 87 [AV.sl 5 (List.map c_api_Node (m_l)), AV.func 27 [] [AV.ptr 1 0], AV.row 2 (List.length ((v).2.1)), AV.bool ((v).2.2)], Ob.var 23 [AV.sl 1 (List.map encS (o1))], Ob.row 53 3 (List.map encOp ((v).2.1))])) (fun k s => code_maker_node_L3 n (m_code_maker_node n) m_l o1 y7 k ((s).1) ((s).2.1) ((s).2.2.1) ((s).2.2.2)) (fun s => rfl) o126 ?_ n (IntKind.i64.wrap (v1_i + 1), 0, m_ok, m_out) (fun _ => 0) _ _ ho126 ?_ (by first | rfl | (simp only [ls, List.map_append, List.map_cons, List.map_nil, List.append_nil, List.length_set, length_copyL] <;> rfl)) (by first | rfl | (simp only [ls, List.map_append, List.map_cons, List.map_nil, List.append_nil, List.length_set, length_copyL] <;> rfl))
      · intro k119 ss a120 K121 cont122 hK123 hcont124 hm hr125
        obtain ⟨s115, s116, s117, s118⟩ := ss
        replace hm : code_maker_node_L3 n (m_code_maker_node n) m_l o1 y7 (k119 + 1) s115 s116 s117 s118 = some o126 := hm
        rw [code_maker_node_L3] at hm
        conv => lhs; whnf
        refine bif_or2 hm ?_ ?_ <;> clear hm <;> intro hc127 hm
        · simp only [hc127, ls]
          conv => lhs; whnf
          refine bind_some2 hm ?_; clear hm; intro y128 hy128 hm
          have hk129 : call false 45 [AV.ptr 0 0, AV.int .i64 (s115)] [Ob.var 87 [AV.sl 5 (List.map c_api_Node (m_l)), AV.func 27 [] [AV.ptr 1 0], AV.row 2 (List.length (s118)), AV.bool (s117)], Ob.var 23 [AV.sl 1 (List.map encS (o1))], Ob.row 53 3 (List.map encOp (s118))] = some (AV.int .i64 ((y128).1), [Ob.var 87 [AV.sl 5 (List.map c_api_Node (m_l)), AV.func 27 [] [AV.ptr 1 0], AV.row 2 (List.length ((y128).2.1)), AV.bool ((y128).2.2)], Ob.var 23 [AV.sl 1 (List.map encS (o1))], Ob.row 53 3 (List.map encOp ((y128).2.1))]) := (hc _ _ _).trans (ih_code_maker_node s115 m_l s118 s117 o1 y128 hy128)
          try simp only [List.drop_zero, ls]
          first | simp only [hk129] | rewrite [hk129]
          try simp only [ls]
          conv => lhs; whnf
          exact cq (hcont124 ((y128).1, IntKind.i64.wrap (s116 + 1), (y128).2.2, (y128).2.1) (fun _ => 0) hm)
        · simp only [hc127, ls]
          conv => lhs; whnf
          have hq := Option.some.inj hm; clear hm; subst hq
          exact kq (hr125 (fun _ => 0))
      · cases o126 with
        | ret v =>
          have hq := Option.some.inj hm; clear hm; subst hq
          rfl
        | out t =>
          obtain ⟨x131, x132, x133⟩ := t
          intro a130
          dsimp only at hm
          conv => lhs; whnf
          refine chk_some2 hm ?_; clear hm; intro hc136 hm
          refine bif_pos (app_row hc136 (by first | rfl | simp only [List.length_map]) (by first | rfl | simp only [List.length_map]) (by first | rfl | simp only [List.length_map, take_map_len]) (by kernel_rfl)) ?_
          try simp only [lt]
          have hp134 : (List.map encOp (x133) : List (List AV)) ++ [[AV.int .i64 (x1.f_Op), AV.int .i64 (0), AV.int .i64 (0)]] = List.map encOp (x133 ++ ([(⟨x1.f_Op, 0, 0⟩ : OpS)] : List OpS)) := by first | rfl | (rw [List.map_append]; rfl) | (rw [List.map_append]; done) | (simp only [List.map_append, List.map_cons, List.map_nil, List.nil_append, encOp] <;> rfl)
          have hl135 : List.length (List.map encOp (x133) : List (List AV)) + List.length ([[AV.int .i64 (x1.f_Op), AV.int .i64 (0), AV.int .i64 (0)]] : List (List AV)) = List.length (x133 ++ ([(⟨x1.f_Op, 0, 0⟩ : OpS)] : List OpS)) := by simp only [List.length_map, List.length_append] <;> rfl
          have hl135_b : List.length x133 + List.length ([[AV.int .i64 (x1.f_Op), AV.int .i64 (0), AV.int .i64 (0)]] : List (List AV)) = List.length (x133 ++ ([(⟨x1.f_Op, 0, 0⟩ : OpS)] : List OpS)) := by simp only [List.length_map, List.length_append] <;> rfl
          have hl135_c : List.length x133 + List.length ([(⟨x1.f_Op, 0, 0⟩ : OpS)] : List OpS) = List.length (x133 ++ ([(⟨x1.f_Op, 0, 0⟩ : OpS)] : List OpS)) := by simp only [List.length_map, List.length_append] <;> rfl
          first | simp only [hp134, hl135] | (simp only [List.length_map, take_map_len]; simp only [hp134, hl135_b, hl135_c])
          try simp only [ls]
          conv => lhs; whnf
          have hq := Option.some.inj hm; clear hm; subst hq
          try simp only [ls]
          exact fq (y := some (AV.int .i64 (x131), [Ob.var 87 [AV.sl 5 (List.map c_api_Node (m_l)), AV.func 27 [] [AV.ptr 1 0], AV.row 2 (List.length ((x133 ++ ([(⟨x1.f_Op, 0, 0⟩ : OpS)] : List OpS)))), AV.bool (x132)], Ob.var 23 [AV.sl 1 (List.map encS (o1))], Ob.row 53 3 (List.map encOp (x133 ++ ([(⟨x1.f_Op, 0, 0⟩ : OpS)] : List OpS)))]))
    · simp only [hc114, ls]
      conv => lhs; whnf
      refine bind_some2 hm ?_; clear hm; intro y138 hy138 hm
      have hk139 : call false 27 [AV.agg [AV.int .i64 (x1.f_Op), AV.int .i64 (x1.f_N), AV.str (x1.f_Name), AV.str (x1.f_In), AV.int .i64 (x1.f_At)], AV.ptr 0 0] [Ob.var 23 [AV.sl 1 (List.map encS (o1))]] = some (AV.tup [AV.agg [AV.int .i64 ((y138).1.op), AV.int .i64 ((y138).1.n), AV.int .i64 ((y138).1.t)], AV.bool ((y138).2)], [Ob.var 23 [AV.sl 1 (List.map encS (o1))]]) := (hc _ _ _).trans (ok_code_Thread_1 n x1 o1 y138 hy138)
      try simp only [List.drop_zero, ls]
      first | simp only [hk139] | rewrite [hk139]
      try simp only [ls]
      conv => lhs; whnf
      refine bif_or2 hm ?_ ?_ <;> clear hm <;> intro hc140 hm
      · simp only [hc140, ls]
        conv => lhs; whnf
        refine chk_some2 hm ?_; clear hm; intro hc143 hm
        refine bif_pos (app_row hc143 (by first | rfl | simp only [List.length_map]) (by first | rfl | simp only [List.length_map]) (by first | rfl | simp only [List.length_map, take_map_len]) (by kernel_rfl)) ?_
        try simp only [lt]
        have hp141 : (List.map encOp (m_out) : List (List AV)) ++ [[AV.int .i64 ((y138).1.op), AV.int .i64 ((y138).1.n), AV.int .i64 ((y138).1.t)]] = List.map encOp (m_out ++ ([(y138).1] : List OpS)) := by first | rfl | (rw [List.map_append]; rfl) | (rw [List.map_append]; done) | (simp only [List.map_append, List.map_cons, List.map_nil, List.nil_append, encOp] <;> rfl)
        have hl142 : List.length (List.map encOp (m_out) : List (List AV)) + List.length ([[AV.int .i64 ((y138).1.op), AV.int .i64 ((y138).1.n), AV.int .i64 ((y138).1.t)]] : List (List AV)) = List.length (m_out ++ ([(y138).1] : List OpS)) := by simp only [List.length_map, List.length_append] <;> rfl
        have hl142_b : List.length m_out + List.length ([[AV.int .i64 ((y138).1.op), AV.int .i64 ((y138).1.n), AV.int .i64 ((y138).1.t)]] : List (List AV)) = List.length (m_out ++ ([(y138).1] : List OpS)) := by simp only [List.length_map, List.length_append] <;> rfl
        have hl142_c : List.length m_out + List.length ([(y138).1] : List OpS) = List.length (m_out ++ ([(y138).1] : List OpS)) := by simp only [List.length_map, List.length_append] <;> rfl
        first | simp only [hp141, hl142] | (simp only [List.length_map, take_map_len]; simp only [hp141, hl142_b, hl142_c])
        try simp only [ls]
        conv => lhs; whnf
        have hq := Option.some.inj hm; clear hm; subst hq
        try simp only [ls]
        exact fq (y := some (AV.int .i64 (IntKind.i64.wrap (v1_i + 1)), [Ob.var 87 [AV.sl 5 (List.map c_api_Node (m_l)), AV.func 27 [] [AV.ptr 1 0], AV.row 2 (List.length ((m_out ++ ([(y138).1] : List OpS)))), AV.bool ((y138).2)], Ob.var 23 [AV.sl 1 (List.map encS (o1))], Ob.row 53 3 (List.map encOp (m_out ++ ([(y138).1] : List OpS)))]))
      · simp only [hc140, ls]
        conv => lhs; whnf
        refine chk_some2 hm ?_; clear hm; intro hc146 hm
        refine bif_pos (app_row hc146 (by first | rfl | simp only [List.length_map]) (by first | rfl | simp only [List.length_map]) (by first | rfl | simp only [List.length_map, take_map_len]) (by kernel_rfl)) ?_
        try simp only [lt]
        have hp144 : (List.map encOp (m_out) : List (List AV)) ++ [[AV.int .i64 ((y138).1.op), AV.int .i64 ((y138).1.n), AV.int .i64 ((y138).1.t)]] = List.map encOp (m_out ++ ([(y138).1] : List OpS)) := by first | rfl | (rw [List.map_append]; rfl) | (rw [List.map_append]; done) | (simp only [List.map_append, List.map_cons, List.map_nil, List.nil_append, encOp] <;> rfl)
        have hl145 : List.length (List.map encOp (m_out) : List (List AV)) + List.length ([[AV.int .i64 ((y138).1.op), AV.int .i64 ((y138).1.n), AV.int .i64 ((y138).1.t)]] : List (List AV)) = List.length (m_out ++ ([(y138).1] : List OpS)) := by simp only [List.length_map, List.length_append] <;> rfl
        have hl145_b : List.length m_out + List.length ([[AV.int .i64 ((y138).1.op), AV.int .i64 ((y138).1.n), AV.int .i64 ((y138).1.t)]] : List (List AV)) = List.length (m_out ++ ([(y138).1] : List OpS)) := by simp only [List.length_map, List.length_append] <;> rfl
        have hl145_c : List.length m_out + List.length ([(y138).1] : List OpS) = List.length (m_out ++ ([(y138).1] : List OpS)) := by simp only [List.length_map, List.length_append] <;> rfl
        first | simp only [hp144, hl145] | (simp only [List.length_map, take_map_len]; simp only [hp144, hl145_b, hl145_c])
        try simp only [ls]
        conv => lhs; whnf
        have hq := Option.some.inj hm; clear hm; subst hq
        try simp only [ls]
        exact fq (y := some (AV.int .i64 (IntKind.i64.wrap (v1_i + 1)), [Ob.var 87 [AV.sl 5 (List.map c_api_Node (m_l)), AV.func 27 [] [AV.ptr 1 0], AV.row 2 (List.length ((m_out ++ ([(y138).1] : List OpS)))), AV.bool (false)], Ob.var 23 [AV.sl 1 (List.map encS (o1))], Ob.row 53 3 (List.map encOp (m_out ++ ([(y138).1] : List OpS)))]))
  | c4 y8 =>
    dsimp only at hm
    have hk3 : call false 37 [AV.int .i64 (x1.f_Op)] [] = some (AV.tup [AV.agg [AV.int .i64 ((y8).1), AV.func 56 [] []], AV.bool ((y8).2)], []) := (hc _ _ _).trans (ok_code_of n x1.f_Op (.c4 y8) hy2)
    try simp only [List.drop_zero, ls]
    first | simp only [hk3] | rewrite [hk3]
    try simp only [ls]
    conv => lhs; whnf
    refine bif_or2 hm ?_ ?_ <;> clear hm <;> intro hc147 hm
    · simp only [hc147, ls]
      conv => lhs; whnf
      refine bind_some2 hm ?_; clear hm; intro o159 ho159 hm
      refine rounds_sim (σ := (Int × Int × Bool × (List OpS))) (τ := (Int × Bool × (List OpS))) (ν := (Int × (List OpS) × Bool)) 0 (fun (s148, s149, s150, s151) a153 => stOf 80 [(0, AV.ptr 0 0), (5, AV.ptr 3 0), (10, AV.int .i64 (s148)), (60, AV.int .i64 ((y8).1)), (61, AV.int .i64 (s149))]) (fun (s148, s149, s150, s151) a153 => [Ob.var 87 [AV.sl 5 (List.map c_api_Node (m_l)), AV.func 27 [] [AV.ptr 1 0], AV.row 2 (List.length (s151)), AV.bool (s150)], Ob.var 23 [AV.sl 1 (List.map encS (o1))], Ob.row 53 3 (List.map encOp (s151)), Ob.var 57 [AV.int .i64 (x1.f_Op), AV.int .i64 (x1.f_N), AV.str (x1.f_Name), AV.str (x1.f_In), AV.int .i64 (x1.f_At)], Ob.var 74 [AV.int .i64 ((y8).1), AV.func 56 [] []]]) (fun (x164, x165, x166) a163 => stOf 80 [(0, AV.ptr 0 0), (5, AV.ptr 3 0), (10, AV.int .i64 (x164))]) (fun (x164, x165, x166) a163 => [Ob.var 87 [AV.sl 5 (List.map c_api_Node (m_l)), AV.func 27 [] [AV.ptr 1 0], AV.row 2 (List.length (x166)), AV.bool (x165)], Ob.var 23 [AV.sl 1 (List.map encS (o1))], Ob.row 53 3 (List.map encOp (x166)), Ob.var 57 [AV.int .i64 (x1.f_Op), AV.int .i64 (x1.f_N), AV.str (x1.f_Name), AV.str (x1.f_In), AV.int .i64 (x1.f_At)], Ob.var 74 [AV.int .i64 ((y8).1), AV.func 56 [] []]]) (fun v => (AV.int .i64 ((v).1), [Ob.var 87 [AV.sl 5 (List.map c_api_Node (m_l)), AV.func 27 [] [AV.ptr 1 0], AV.row 2 (List.length ((v).2.1)), AV.bool ((v).2.2)], Ob.var 23 [AV.sl 1 (List.map encS (o1))], Ob.row 53 3 (List.map encOp ((v).2.1))])) (fun k s => code_maker_node_L4 n (m_code_maker_node n) m_l o1 y8 k ((s).1) ((s).2.1) ((s).2.2.1) ((s).2.2.2)) (fun s => rfl) o159 ?_ n (IntKind.i64.wrap (v1_i + 1), 0, m_ok, m_out) (fun _ => 0) _ _ ho159 ?_ (by first | rfl | (simp only [ls, List.map_append, List.map_cons, List.map_nil, List.append_nil, List.length_set, length_copyL] <;> rfl)) (by first | rfl | (simp only [ls, List.map_append, List.map_cons, List.map_nil, List.append_nil, List.length_set, length_copyL] <;> rfl))
      · intro k152 ss a153 K154 cont155 hK156 hcont157 hm hr158
        obtain ⟨s148, s149, s150, s151⟩ := ss
        replace hm : code_maker_node_L4 n (m_code_maker_node n) m_l o1 y8 (k152 + 1) s148 s149 s150 s151 = some o159 := hm
        rw [code_maker_node_L4] at hm
        conv => lhs; whnf
        refine bif_or2 hm ?_ ?_ <;> clear hm <;> intro hc160 hm
        · simp only [hc160, ls]
          conv => lhs; whnf
          refine bind_some2 hm ?_; clear hm; intro y161 hy161 hm
          have hk162 : call false 45 [AV.ptr 0 0, AV.int .i64 (s148)] [Ob.var 87 [AV.sl 5 (List.map c_api_Node (m_l)), AV.func 27 [] [AV.ptr 1 0], AV.row 2 (List.length (s151)), AV.bool (s150)], Ob.var 23 [AV.sl 1 (List.map encS (o1))], Ob.row 53 3 (List.map encOp (s151))] = some (AV.int .i64 ((y161).1), [Ob.var 87 [AV.sl 5 (List.map c_api_Node (m_l)), AV.func 27 [] [AV.ptr 1 0], AV.row 2 (List.length ((y161).2.1)), AV.bool ((y161).2.2)], Ob.var 23 [AV.sl 1 (List.map encS (o1))], Ob.row 53 3 (List.map encOp ((y161).2.1))]) := (hc _ _ _).trans (ih_code_maker_node s148 m_l s151 s150 o1 y161 hy161)
          try simp only [List.drop_zero, ls]
          first | simp only [hk162] | rewrite [hk162]
          try simp only [ls]
          conv => lhs; whnf
          exact cq (hcont157 ((y161).1, IntKind.i64.wrap (s149 + 1), (y161).2.2, (y161).2.1) (fun _ => 0) hm)
        · simp only [hc160, ls]
          conv => lhs; whnf
          have hq := Option.some.inj hm; clear hm; subst hq
          exact kq (hr158 (fun _ => 0))
      · cases o159 with
        | ret v =>
          have hq := Option.some.inj hm; clear hm; subst hq
          rfl
        | out t =>
          obtain ⟨x164, x165, x166⟩ := t
          intro a163
          dsimp only at hm
          conv => lhs; whnf
          refine chk_some2 hm ?_; clear hm; intro hc169 hm
          refine bif_pos (app_row hc169 (by first | rfl | simp only [List.length_map]) (by first | rfl | simp only [List.length_map]) (by first | rfl | simp only [List.length_map, take_map_len]) (by kernel_rfl)) ?_
          try simp only [lt]
          have hp167 : (List.map encOp (x166) : List (List AV)) ++ [[AV.int .i64 (x1.f_Op), AV.int .i64 (0), AV.int .i64 (0)]] = List.map encOp (x166 ++ ([(⟨x1.f_Op, 0, 0⟩ : OpS)] : List OpS)) := by first | rfl | (rw [List.map_append]; rfl) | (rw [List.map_append]; done) | (simp only [List.map_append, List.map_cons, List.map_nil, List.nil_append, encOp] <;> rfl)
          have hl168 : List.length (List.map encOp (x166) : List (List AV)) + List.length ([[AV.int .i64 (x1.f_Op), AV.int .i64 (0), AV.int .i64 (0)]] : List (List AV)) = List.length (x166 ++ ([(⟨x1.f_Op, 0, 0⟩ : OpS)] : List OpS)) := by simp only [List.length_map, List.length_append] <;> rfl
          have hl168_b : List.length x166 + List.length ([[AV.int .i64 (x1.f_Op), AV.int .i64 (0), AV.int .i64 (0)]] : List (List AV)) = List.length (x166 ++ ([(⟨x1.f_Op, 0, 0⟩ : OpS)] : List OpS)) := by simp only [List.length_map, List.length_append] <;> rfl
          have hl168_c : List.length x166 + List.length ([(⟨x1.f_Op, 0, 0⟩ : OpS)] : List OpS) = List.length (x166 ++ ([(⟨x1.f_Op, 0, 0⟩ : OpS)] : List OpS)) := by simp only [List.length_map, List.length_append] <;> rfl
          first | simp only [hp167, hl168] | (simp only [List.length_map, take_map_len]; simp only [hp167, hl168_b, hl168_c])
          try simp only [ls]
          conv => lhs; whnf
          have hq := Option.some.inj hm; clear hm; subst hq
          try simp only [ls]
          exact fq (y := some (AV.int .i64 (x164), [Ob.var 87 [AV.sl 5 (List.map c_api_Node (m_l)), AV.func 27 [] [AV.ptr 1 0], AV.row 2 (List.length ((x166 ++ ([(⟨x1.f_Op, 0, 0⟩ : OpS)] : List OpS)))), AV.bool (x165)], Ob.var 23 [AV.sl 1 (List.map encS (o1))], Ob.row 53 3 (List.map encOp (x166 ++ ([(⟨x1.f_Op, 0, 0⟩ : OpS)] : List OpS)))]))
    · simp only [hc147, ls]
      conv => lhs; whnf
      refine bind_some2 hm ?_; clear hm; intro y171 hy171 hm
      have hk172 : call false 27 [AV.agg [AV.int .i64 (x1.f_Op), AV.int .i64 (x1.f_N), AV.str (x1.f_Name), AV.str (x1.f_In), AV.int .i64 (x1.f_At)], AV.ptr 0 0] [Ob.var 23 [AV.sl 1 (List.map encS (o1))]] = some (AV.tup [AV.agg [AV.int .i64 ((y171).1.op), AV.int .i64 ((y171).1.n), AV.int .i64 ((y171).1.t)], AV.bool ((y171).2)], [Ob.var 23 [AV.sl 1 (List.map encS (o1))]]) := (hc _ _ _).trans (ok_code_Thread_1 n x1 o1 y171 hy171)
      try simp only [List.drop_zero, ls]
      first | simp only [hk172] | rewrite [hk172]
      try simp only [ls]
      conv => lhs; whnf
      refine bif_or2 hm ?_ ?_ <;> clear hm <;> intro hc173 hm
      · simp only [hc173, ls]
        conv => lhs; whnf
        refine chk_some2 hm ?_; clear hm; intro hc176 hm
        refine bif_pos (app_row hc176 (by first | rfl | simp only [List.length_map]) (by first | rfl | simp only [List.length_map]) (by first | rfl | simp only [List.length_map, take_map_len]) (by kernel_rfl)) ?_
        try simp only [lt]
        have hp174 : (List.map encOp (m_out) : List (List AV)) ++ [[AV.int .i64 ((y171).1.op), AV.int .i64 ((y171).1.n), AV.int .i64 ((y171).1.t)]] = List.map encOp (m_out ++ ([(y171).1] : List OpS)) := by first | rfl | (rw [List.map_append]; rfl) | (rw [List.map_append]; done) | (simp only [List.map_append, List.map_cons, List.map_nil, List.nil_append, encOp] <;> rfl)
        have hl175 : List.length (List.map encOp (m_out) : List (List AV)) + List.length ([[AV.int .i64 ((y171).1.op), AV.int .i64 ((y171).1.n), AV.int .i64 ((y171).1.t)]] : List (List AV)) = List.length (m_out ++ ([(y171).1] : List OpS)) := by simp only [List.length_map, List.length_append] <;> rfl
        have hl175_b : List.length m_out + List.length ([[AV.int .i64 ((y171).1.op), AV.int .i64 ((y171).1.n), AV.int .i64 ((y171).1.t)]] : List (List AV)) = List.length (m_out ++ ([(y171).1] : List OpS)) := by simp only [List.length_map, List.length_append] <;> rfl
        have hl175_c : List.length m_out + List.length ([(y171).1] : List OpS) = List.length (m_out ++ ([(y171).1] : List OpS)) := by simp only [List.length_map, List.length_append] <;> rfl
        first | simp only [hp174, hl175] | (simp only [List.length_map, take_map_len]; simp only [hp174, hl175_b, hl175_c])
        try simp only [ls]
        conv => lhs; whnf
        have hq := Option.some.inj hm; clear hm; subst hq
        try simp only [ls]
        exact fq (y := some (AV.int .i64 (IntKind.i64.wrap (v1_i + 1)), [Ob.var 87 [AV.sl 5 (List.map c_api_Node (m_l)), AV.func 27 [] [AV.ptr 1 0], AV.row 2 (List.length ((m_out ++ ([(y171).1] : List OpS)))), AV.bool ((y171).2)], Ob.var 23 [AV.sl 1 (List.map encS (o1))], Ob.row 53 3 (List.map encOp (m_out ++ ([(y171).1] : List OpS)))]))
      · simp only [hc173, ls]
        conv => lhs; whnf
        refine chk_some2 hm ?_; clear hm; intro hc179 hm
        refine bif_pos (app_row hc179 (by first | rfl | simp only [List.length_map]) (by first | rfl | simp only [List.length_map]) (by first | rfl | simp only [List.length_map, take_map_len]) (by kernel_rfl)) ?_
        try simp only [lt]
        have hp177 : (List.map encOp (m_out) : List (List AV)) ++ [[AV.int .i64 ((y171).1.op), AV.int .i64 ((y171).1.n), AV.int .i64 ((y171).1.t)]] = List.map encOp (m_out ++ ([(y171).1] : List OpS)) := by first | rfl | (rw [List.map_append]; rfl) | (rw [List.map_append]; done) | (simp only [List.map_append, List.map_cons, List.map_nil, List.nil_append, encOp] <;> rfl)
        have hl178 : List.length (List.map encOp (m_out) : List (List AV)) + List.length ([[AV.int .i64 ((y171).1.op), AV.int .i64 ((y171).1.n), AV.int .i64 ((y171).1.t)]] : List (List AV)) = List.length (m_out ++ ([(y171).1] : List OpS)) := by simp only [List.length_map, List.length_append] <;> rfl
        have hl178_b : List.length m_out + List.length ([[AV.int .i64 ((y171).1.op), AV.int .i64 ((y171).1.n), AV.int .i64 ((y171).1.t)]] : List (List AV)) = List.length (m_out ++ ([(y171).1] : List OpS)) := by simp only [List.length_map, List.length_append] <;> rfl
        have hl178_c : List.length m_out + List.length ([(y171).1] : List OpS) = List.length (m_out ++ ([(y171).1] : List OpS)) := by simp only [List.length_map, List.length_append] <;> rfl
        first | simp only [hp177, hl178] | (simp only [List.length_map, take_map_len]; simp only [hp177, hl178_b, hl178_c])
        try simp only [ls]
        conv => lhs; whnf
        have hq := Option.some.inj hm; clear hm; subst hq
        try simp only [ls]
        exact fq (y := some (AV.int .i64 (IntKind.i64.wrap (v1_i + 1)), [Ob.var 87 [AV.sl 5 (List.map c_api_Node (m_l)), AV.func 27 [] [AV.ptr 1 0], AV.row 2 (List.length ((m_out ++ ([(y171).1] : List OpS)))), AV.bool (false)], Ob.var 23 [AV.sl 1 (List.map encS (o1))], Ob.row 53 3 (List.map encOp (m_out ++ ([(y171).1] : List OpS)))]))
  | c5 y9 =>
    dsimp only at hm
    have hk3 : call false 37 [AV.int .i64 (x1.f_Op)] [] = some (AV.tup [AV.agg [AV.int .i64 ((y9).1), AV.func 55 [] []], AV.bool ((y9).2)], []) := (hc _ _ _).trans (ok_code_of n x1.f_Op (.c5 y9) hy2)
    try simp only [List.drop_zero, ls]
    first | simp only [hk3] | rewrite [hk3]
    try simp only [ls]
    conv => lhs; whnf
    refine bif_or2 hm ?_ ?_ <;> clear hm <;> intro hc180 hm
    · simp only [hc180, ls]
      conv => lhs; whnf
      refine bind_some2 hm ?_; clear hm; intro o192 ho192 hm
      refine rounds_sim (σ := (Int × Int × Bool × (List OpS))) (τ := (Int × Bool × (List OpS))) (ν := (Int × (List OpS) × Bool)) 0 (fun (s181, s182, s183, s184) a186 => stOf 80 [(0, AV.ptr 0 0), (5, AV.ptr 3 0), (10, AV.int .i64 (s181)), (60, AV.int .i64 ((y9).1)), (61, AV.int .i64 (s182))]) (fun (s181, s182, s183, s184) a186 => [Ob.var 87 [AV.sl 5 (List.map c_api_Node (m_l)), AV.func 27 [] [AV.ptr 1 0], AV.row 2 (List.length (s184)), AV.bool (s183)], Ob.var 23 [AV.sl 1 (List.map encS (o1))], Ob.row 53 3 (List.map encOp (s184)), Ob.var 57 [AV.int .i64 (x1.f_Op), AV.int .i64 (x1.f_N), AV.str (x1.f_Name), AV.str (x1.f_In), AV.int .i64 (x1.f_At)], Ob.var 74 [AV.int .i64 ((y9).1), AV.func 55 [] []]]) (fun (x197, x198, x199) a196 => stOf 80 [(0, AV.ptr 0 0), (5, AV.ptr 3 0), (10, AV.int .i64 (x197))]) (fun (x197, x198, x199) a196 => [Ob.var 87 [AV.sl 5 (List.map c_api_Node (m_l)), AV.func 27 [] [AV.ptr 1 0], AV.row 2 (List.length (x199)), AV.bool (x198)], Ob.var 23 [AV.sl 1 (List.map encS (o1))], Ob.row 53 3 (List.map encOp (x199)), Ob.var 57 [AV.int .i64 (x1.f_Op), AV.int .i64 (x1.f_N), AV.str (x1.f_Name), AV.str (x1.f_In), AV.int .i64 (x1.f_At)], Ob.var 74 [AV.int .i64 ((y9).1), AV.func 55 [] []]]) (fun v => (AV.int .i64 ((v).1), [Ob.var 87 [AV.sl 5 (List.map c_api_Node (m_l)), AV.func 27 [] [AV.ptr 1 0], AV.row 2 (List.length ((v).2.1)), AV.bool ((v).2.2)], Ob.var 23 [AV.sl 1 (List.map encS (o1))], Ob.row 53 3 (List.map encOp ((v).2.1))])) (fun k s => code_maker_node_L5 n (m_code_maker_node n) m_l o1 y9 k ((s).1) ((s).2.1) ((s).2.2.1) ((s).2.2.2)) (fun s => rfl) o192 ?_ n (IntKind.i64.wrap (v1_i + 1), 0, m_ok, m_out) (fun _ => 0) _ _ ho192 ?_ (by first | rfl | (simp only [ls, List.map_append, List.map_cons, List.map_nil, List.append_nil, List.length_set, length_copyL] <;> rfl)) (by first | rfl | (simp only [ls, List.map_append, List.map_cons, List.map_nil, List.append_nil, List.length_set, length_copyL] <;> rfl))
      · intro k185 ss a186 K187 cont188 hK189 hcont190 hm hr191
        obtain ⟨s181, s182, s183, s184⟩ := ss
        replace hm : code_maker_node_L5 n (m_code_maker_node n) m_l o1 y9 (k185 + 1) s181 s182 s183 s184 = some o192 := hm
        rw [code_maker_node_L5] at hm
        conv => lhs; whnf
        refine bif_or2 hm ?_ ?_ <;> clear hm <;> intro hc193 hm
        · simp only [hc193, ls]
          conv => lhs; whnf
          refine bind_some2 hm ?_; clear hm; intro y194 hy194 hm
          have hk195 : call false 45 [AV.ptr 0 0, AV.int .i64 (s181)] [Ob.var 87 [AV.sl 5 (List.map c_api_Node (m_l)), AV.func 27 [] [AV.ptr 1 0], AV.row 2 (List.length (s184)), AV.bool (s183)], Ob.var 23 [AV.sl 1 (List.map encS (o1))], Ob.row 53 3 (List.map encOp (s184))] = some (AV.int .i64 ((y194).1), [Ob.var 87 [AV.sl 5 (List.map c_api_Node (m_l)), AV.func 27 [] [AV.ptr 1 0], AV.row 2 (List.length ((y194).2.1)), AV.bool ((y194).2.2)], Ob.var 23 [AV.sl 1 (List.map encS (o1))], Ob.row 53 3 (List.map encOp ((y194).2.1))]) := (hc _ _ _).trans (ih_code_maker_node s181 m_l s184 s183 o1 y194 hy194)
          try simp only [List.drop_zero, ls]
          first | simp only [hk195] | rewrite [hk195]
          try simp only [ls]
          conv => lhs; whnf
          exact cq (hcont190 ((y194).1, IntKind.i64.wrap (s182 + 1), (y194).2.2, (y194).2.1) (fun _ => 0) hm)
        · simp only [hc193, ls]
          conv => lhs; whnf
          have hq := Option.some.inj hm; clear hm; subst hq
          exact kq (hr191 (fun _ => 0))
      · cases o192 with
        | ret v =>
          have hq := Option.some.inj hm; clear hm; subst hq
          rfl
        | out t =>
          obtain ⟨x197, x198, x199⟩ := t
          intro a196
          dsimp only at hm
          conv => lhs; whnf
          refine chk_some2 hm ?_; clear hm; intro hc202 hm
          refine bif_pos (app_row hc202 (by first | rfl | simp only [List.length_map]) (by first | rfl | simp only [List.length_map]) (by first | rfl | simp only [List.length_map, take_map_len]) (by kernel_rfl)) ?_
          try simp only [lt]
          have hp200 : (List.map encOp (x199) : List (List AV)) ++ [[AV.int .i64 (x1.f_Op), AV.int .i64 (0), AV.int .i64 (0)]] = List.map encOp (x199 ++ ([(⟨x1.f_Op, 0, 0⟩ : OpS)] : List OpS)) := by first | rfl | (rw [List.map_append]; rfl) | (rw [List.map_append]; done) | (simp only [List.map_append, List.map_cons, List.map_nil, List.nil_append, encOp] <;> rfl)
          have hl201 : List.length (List.map encOp (x199) : List (List AV)) + List.length ([[AV.int .i64 (x1.f_Op), AV.int .i64 (0), AV.int .i64 (0)]] : List (List AV)) = List.length (x199 ++ ([(⟨x1.f_Op, 0, 0⟩ : OpS)] : List OpS)) := by simp only [List.length_map, List.length_append] <;> rfl
          have hl201_b : List.length x199 + List.length ([[AV.int .i64 (x1.f_Op), AV.int .i64 (0), AV.int .i64 (0)]] : List (List AV)) = List.length (x199 ++ ([(⟨x1.f_Op, 0, 0⟩ : OpS)] : List OpS)) := by simp only [List.length_map, List.length_append] <;> rfl
          have hl201_c : List.length x199 + List.length ([(⟨x1.f_Op, 0, 0⟩ : OpS)] : List OpS) = List.length (x199 ++ ([(⟨x1.f_Op, 0, 0⟩ : OpS)] : List OpS)) := by simp only [List.length_map, List.length_append] <;> rfl
          first | simp only [hp200, hl201] | (simp only [List.length_map, take_map_len]; simp only [hp200, hl201_b, hl201_c])
          try simp only [ls]
          conv => lhs; whnf
          have hq := Option.some.inj hm; clear hm; subst hq
          try simp only [ls]
          exact fq (y := some (AV.int .i64 (x197), [Ob.var 87 [AV.sl 5 (List.map c_api_Node (m_l)), AV.func 27 [] [AV.ptr 1 0], AV.row 2 (List.length ((x199 ++ ([(⟨x1.f_Op, 0, 0⟩ : OpS)] : List OpS)))), AV.bool (x198)], Ob.var 23 [AV.sl 1 (List.map encS (o1))], Ob.row 53 3 (List.map encOp (x199 ++ ([(⟨x1.f_Op, 0, 0⟩ : OpS)] : List OpS)))]))
    · simp only [hc180, ls]
      conv => lhs; whnf
      refine bind_some2 hm ?_; clear hm; intro y204 hy204 hm
      have hk205 : call false 27 [AV.agg [AV.int .i64 (x1.f_Op), AV.int .i64 (x1.f_N), AV.str (x1.f_Name), AV.str (x1.f_In), AV.int .i64 (x1.f_At)], AV.ptr 0 0] [Ob.var 23 [AV.sl 1 (List.map encS (o1))]] = some (AV.tup [AV.agg [AV.int .i64 ((y204).1.op), AV.int .i64 ((y204).1.n), AV.int .i64 ((y204).1.t)], AV.bool ((y204).2)], [Ob.var 23 [AV.sl 1 (List.map encS (o1))]]) := (hc _ _ _).trans (ok_code_Thread_1 n x1 o1 y204 hy204)
      try simp only [List.drop_zero, ls]
      first | simp only [hk205] | rewrite [hk205]
      try simp only [ls]
      conv => lhs; whnf
      refine bif_or2 hm ?_ ?_ <;> clear hm <;> intro hc206 hm
      · simp only [hc206, ls]
        conv => lhs; whnf
        refine chk_some2 hm ?_; clear hm; intro hc209 hm
        refine bif_pos (app_row hc209 (by first | rfl | simp only [List.length_map]) (by first | rfl | simp only [List.length_map]) (by first | rfl | simp only [List.length_map, take_map_len]) (by kernel_rfl)) ?_
        try simp only [lt]
        have hp207 : (List.map encOp (m_out) : List (List AV)) ++ [[AV.int .i64 ((y204).1.op), AV.int .i64 ((y204).1.n), AV.int .i64 ((y204).1.t)]] = List.map encOp (m_out ++ ([(y204).1] : List OpS)) := by first | rfl | (rw [List.map_append]; rfl) | (rw [List.map_append]; done) | (simp only [List.map_append, List.map_cons, List.map_nil, List.nil_append, encOp] <;> rfl)
        have hl208 : List.length (List.map encOp (m_out) : List (List AV)) + List.length ([[AV.int .i64 ((y204).1.op), AV.int .i64 ((y204).1.n), AV.int .i64 ((y204).1.t)]] : List (List AV)) = List.length (m_out ++ ([(y204).1] : List OpS)) := by simp only [List.length_map, List.length_append] <;> rfl
        have hl208_b : List.length m_out + List.length ([[AV.int .i64 ((y204).1.op), AV.int .i64 ((y204).1.n), AV.int .i64 ((y204).1.t)]] : List (List AV)) = List.length (m_out ++ ([(y204).1] : List OpS)) := by simp only [List.length_map, List.length_append] <;> rfl
        have hl208_c : List.length m_out + List.length ([(y204).1] : List OpS) = List.length (m_out ++ ([(y204).1] : List OpS)) := by simp only [List.length_map, List.length_append] <;> rfl
        first | simp only [hp207, hl208] | (simp only [List.length_map, take_map_len]; simp only [hp207, hl208_b, hl208_c])
        try simp only [ls]
        conv => lhs; whnf
        have hq := Option.some.inj hm; clear hm; subst hq
        try simp only [ls]
        exact fq (y := some (AV.int .i64 (IntKind.i64.wrap (v1_i + 1)), [Ob.var 87 [AV.sl 5 (List.map c_api_Node (m_l)), AV.func 27 [] [AV.ptr 1 0], AV.row 2 (List.length ((m_out ++ ([(y204).1] : List OpS)))), AV.bool ((y204).2)], Ob.var 23 [AV.sl 1 (List.map encS (o1))], Ob.row 53 3 (List.map encOp (m_out ++ ([(y204).1] : List OpS)))]))
      · simp only [hc206, ls]
        conv => lhs; whnf
        refine chk_some2 hm ?_; clear hm; intro hc212 hm
        refine bif_pos (app_row hc212 (by first | rfl | simp only [List.length_map]) (by first | rfl | simp only [List.length_map]) (by first | rfl | simp only [List.length_map, take_map_len]) (by kernel_rfl)) ?_
        try simp only [lt]
        have hp210 : (List.map encOp (m_out) : List (List AV)) ++ [[AV.int .i64 ((y204).1.op), AV.int .i64 ((y204).1.n), AV.int .i64 ((y204).1.t)]] = List.map encOp (m_out ++ ([(y204).1] : List OpS)) := by first | rfl | (rw [List.map_append]; rfl) | (rw [List.map_append]; done) | (simp only [List.map_append, List.map_cons, List.map_nil, List.nil_append, encOp] <;> rfl)
        have hl211 : List.length (List.map encOp (m_out) : List (List AV)) + List.length ([[AV.int .i64 ((y204).1.op), AV.int .i64 ((y204).1.n), AV.int .i64 ((y204).1.t)]] : List (List AV)) = List.length (m_out ++ ([(y204).1] : List OpS)) := by simp only [List.length_map, List.length_append] <;> rfl
        have hl211_b : List.length m_out + List.length ([[AV.int .i64 ((y204).1.op), AV.int .i64 ((y204).1.n), AV.int .i64 ((y204).1.t)]] : List (List AV)) = List.length (m_out ++ ([(y204).1] : List OpS)) := by simp only [List.length_map, List.length_append] <;> rfl
        have hl211_c : List.length m_out + List.length ([(y204).1] : List OpS) = List.length (m_out ++ ([(y204).1] : List OpS)) := by simp only [List.length_map, List.length_append] <;> rfl
        first | simp only [hp210, hl211] | (simp only [List.length_map, take_map_len]; simp only [hp210, hl211_b, hl211_c])
        try simp only [ls]
        conv => lhs; whnf
        have hq := Option.some.inj hm; clear hm; subst hq
        try simp only [ls]
        exact fq (y := some (AV.int .i64 (IntKind.i64.wrap (v1_i + 1)), [Ob.var 87 [AV.sl 5 (List.map c_api_Node (m_l)), AV.func 27 [] [AV.ptr 1 0], AV.row 2 (List.length ((m_out ++ ([(y204).1] : List OpS)))), AV.bool (false)], Ob.var 23 [AV.sl 1 (List.map encS (o1))], Ob.row 53 3 (List.map encOp (m_out ++ ([(y204).1] : List OpS)))]))
  | c6 y10 =>
    dsimp only at hm
    have hk3 : call false 37 [AV.int .i64 (x1.f_Op)] [] = some (AV.tup [AV.agg [AV.int .i64 ((y10).1), AV.func 54 [] []], AV.bool ((y10).2)], []) := (hc _ _ _).trans (ok_code_of n x1.f_Op (.c6 y10) hy2)
    try simp only [List.drop_zero, ls]
    first | simp only [hk3] | rewrite [hk3]
    try simp only [ls]
    conv => lhs; whnf
    refine bif_or2 hm ?_ ?_ <;> clear hm <;> intro hc213 hm
    · simp only [hc213, ls]
      conv => lhs; whnf
      refine bind_some2 hm ?_; clear hm; intro o225 ho225 hm
      refine rounds_sim (σ := (Int × Int × Bool × (List OpS))) (τ := (Int × Bool × (List OpS))) (ν := (Int × (List OpS) × Bool)) 0 (fun (s214, s215, s216, s217) a219 => stOf 80 [(0, AV.ptr 0 0), (5, AV.ptr 3 0), (10, AV.int .i64 (s214)), (60, AV.int .i64 ((y10).1)), (61, AV.int .i64 (s215))]) (fun (s214, s215, s216, s217) a219 => [Ob.var 87 [AV.sl 5 (List.map c_api_Node (m_l)), AV.func 27 [] [AV.ptr 1 0], AV.row 2 (List.length (s217)), AV.bool (s216)], Ob.var 23 [AV.sl 1 (List.map encS (o1))], Ob.row 53 3 (List.map encOp (s217)), Ob.var 57 [AV.int .i64 (x1.f_Op), AV.int .i64 (x1.f_N), AV.str (x1.f_Name), AV.str (x1.f_In), AV.int .i64 (x1.f_At)], Ob.var 74 [AV.int .i64 ((y10).1), AV.func 54 [] []]]) (fun (x230, x231, x232) a229 => stOf 80 [(0, AV.ptr 0 0), (5, AV.ptr 3 0), (10, AV.int .i64 (x230))]) (fun (x230, x231, x232) a229 => [Ob.var 87 [AV.sl 5 (List.map c_api_Node (m_l)), AV.func 27 [] [AV.ptr 1 0], AV.row 2 (List.length (x232)), AV.bool (x231)], Ob.var 23 [AV.sl 1 (List.map encS (o1))], Ob.row 53 3 (List.map encOp (x232)), Ob.var 57 [AV.int .i64 (x1.f_Op), AV.int .i64 (x1.f_N), AV.str (x1.f_Name), AV.str (x1.f_In), AV.int .i64 (x1.f_At)], Ob.var 74 [AV.int .i64 ((y10).1), AV.func 54 [] []]]) (fun v => (AV.int .i64 ((v).1), [Ob.var 87 [AV.sl 5 (List.map c_api_Node (m_l)), AV.func 27 [] [AV.ptr 1 0], AV.row 2 (List.length ((v).2.1)), AV.bool ((v).2.2)], Ob.var 23 [AV.sl 1 (List.map encS (o1))], Ob.row 53 3 (List.map encOp ((v).2.1))])) (fun k s => code_maker_node_L6 n (m_code_maker_node n) m_l o1 y10 k ((s).1) ((s).2.1) ((s).2.2.1) ((s).2.2.2)) (fun s => rfl) o225 ?_ n (IntKind.i64.wrap (v1_i + 1), 0, m_ok, m_out) (fun _ => 0) _ _ ho225 ?_ (by first | rfl | (simp only [ls, List.map_append, List.map_cons, List.map_nil, List.append_nil, List.length_set, length_copyL] <;> rfl)) (by first | rfl | (simp only [ls, List.map_append, List.map_cons, List.map_nil, List.append_nil, List.length_set, length_copyL] <;> rfl))
      · intro k218 ss a219 K220 cont221 hK222 hcont223 hm hr224
        obtain ⟨s214, s215, s216, s217⟩ := ss
        replace hm : code_maker_node_L6 n (m_code_maker_node n) m_l o1 y10 (k218 + 1) s214 s215 s216 s217 = some o225 := hm
        rw [code_maker_node_L6] at hm
        conv => lhs; whnf
        refine bif_or2 hm ?_ ?_ <;> clear hm <;> intro hc226 hm
        · simp only [hc226, ls]
          conv => lhs; whnf
          refine bind_some2 hm ?_; clear hm; intro y227 hy227 hm
          have hk228 : call false 45 [AV.ptr 0 0, AV.int .i64 (s214)] [Ob.var 87 [AV.sl 5 (List.map c_api_Node (m_l)), AV.func 27 [] [AV.ptr 1 0], AV.row 2 (List.length (s217)), AV.bool (s216)], Ob.var 23 [AV.sl 1 (List.map encS (o1))], Ob.row 53 3 (List.map encOp (s217))] = some (AV.int .i64 ((y227).1), [Ob.var 87 [AV.sl 5 (List.map c_api_Node (m_l)), AV.func 27 [] [AV.ptr 1 0], AV.row 2 (List.length ((y227).2.1)), AV.bool ((y227).2.2)], Ob.var 23 [AV.sl 1 (List.map encS (o1))], Ob.row 53 3 (List.map encOp ((y227).2.1))]) := (hc _ _ _).trans (ih_code_maker_node s214 m_l s217 s216 o1 y227 hy227)
          try simp only [List.drop_zero, ls]
          first | simp only [hk228] | rewrite [hk228]
          try simp only [ls]
          conv => lhs; whnf
          exact cq (hcont223 ((y227).1, IntKind.i64.wrap (s215 + 1), (y227).2.2, (y227).2.1) (fun _ => 0) hm)
        · simp only [hc226, ls]
          conv => lhs; whnf
          have hq := Option.some.inj hm; clear hm; subst hq
          exact kq (hr224 (fun _ => 0))
      · cases o225 with
        | ret v =>
          have hq := Option.some.inj hm; clear hm; subst hq
          rfl
        | out t =>
          obtain ⟨x230, x231, x232⟩ := t
          intro a229
          dsimp only at hm
          conv => lhs; whnf
          refine chk_some2 hm ?_; clear hm; intro hc235 hm
          refine bif_pos (app_row hc235 (by first | rfl | simp only [List.length_map]) (by first | rfl | simp only [List.length_map]) (by first | rfl | simp only [List.length_map, take_map_len]) (by kernel_rfl)) ?_
          try simp only [lt]
          have hp233 : (List.map encOp (x232) : List (List AV)) ++ [[AV.int .i64 (x1.f_Op), AV.int .i64 (0), AV.int .i64 (0)]] = List.map encOp (x232 ++ ([(⟨x1.f_Op, 0, 0⟩ : OpS)] : List OpS)) := by first | rfl | (rw [List.map_append]; rfl) | (rw [List.map_append]; done) | (simp only [List.map_append, List.map_cons, List.map_nil, List.nil_append, encOp] <;> rfl)
          have hl234 : List.length (List.map encOp (x232) : List (List AV)) + List.length ([[AV.int .i64 (x1.f_Op), AV.int .i64 (0), AV.int .i64 (0)]] : List (List AV)) = List.length (x232 ++ ([(⟨x1.f_Op, 0, 0⟩ : OpS)] : List OpS)) := by simp only [List.length_map, List.length_append] <;> rfl
          have hl234_b : List.length x232 + List.length ([[AV.int .i64 (x1.f_Op), AV.int .i64 (0), AV.int .i64 (0)]] : List (List AV)) = List.length (x232 ++ ([(⟨x1.f_Op, 0, 0⟩ : OpS)] : List OpS)) := by simp only [List.length_map, List.length_append] <;> rfl
          have hl234_c : List.length x232 + List.length ([(⟨x1.f_Op, 0, 0⟩ : OpS)] : List OpS) = List.length (x232 ++ ([(⟨x1.f_Op, 0, 0⟩ : OpS)] : List OpS)) := by simp only [List.length_map, List.length_append] <;> rfl
          first | simp only [hp233, hl234] | (simp only [List.length_map, take_map_len]; simp only [hp233, hl234_b, hl234_c])
          try simp only [ls]
          conv => lhs; whnf
          have hq := Option.some.inj hm; clear hm; subst hq
          try simp only [ls]
          exact fq (y := some (AV.int .i64 (x230), [Ob.var 87 [AV.sl 5 (List.map c_api_Node (m_l)), AV.func 27 [] [AV.ptr 1 0], AV.row 2 (List.length ((x232 ++ ([(⟨x1.f_Op, 0, 0⟩ : OpS)] : List OpS)))), AV.bool (x231)], Ob.var 23 [AV.sl 1 (List.map encS (o1))], Ob.row 53 3 (List.map encOp (x232 ++ ([(⟨x1.f_Op, 0, 0⟩ : OpS)] : List OpS)))]))
    · simp only [hc213, ls]
      conv => lhs; whnf
      refine bind_some2 hm ?_; clear hm; intro y237 hy237 hm
      have hk238 : call false 27 [AV.agg [AV.int .i64 (x1.f_Op), AV.int .i64 (x1.f_N), AV.str (x1.f_Name), AV.str (x1.f_In), AV.int .i64 (x1.f_At)], AV.ptr 0 0] [Ob.var 23 [AV.sl 1 (List.map encS (o1))]] = some (AV.tup [AV.agg [AV.int .i64 ((y237).1.op), AV.int .i64 ((y237).1.n), AV.int .i64 ((y237).1.t)], AV.bool ((y237).2)], [Ob.var 23 [AV.sl 1 (List.map encS (o1))]]) := (hc _ _ _).trans (ok_code_Thread_1 n x1 o1 y237 hy237)
      try simp only [List.drop_zero, ls]
      first | simp only [hk238] | rewrite [hk238]
      try simp only [ls]
      conv => lhs; whnf
      refine bif_or2 hm ?_ ?_ <;> clear hm <;> intro hc239 hm
      · simp only [hc239, ls]
        conv => lhs; whnf
        refine chk_some2 hm ?_; clear hm; intro hc242 hm
        refine bif_pos (app_row hc242 (by first | rfl | simp only [List.length_map]) (by first | rfl | simp only [List.length_map]) (by first | rfl | simp only [List.length_map, take_map_len]) (by kernel_rfl)) ?_
        try simp only [lt]
        have hp240 : (List.map encOp (m_out) : List (List AV)) ++ [[AV.int .i64 ((y237).1.op), AV.int .i64 ((y237).1.n), AV.int .i64 ((y237).1.t)]] = List.map encOp (m_out ++ ([(y237).1] : List OpS)) := by first | rfl | (rw [List.map_append]; rfl) | (rw [List.map_append]; done) | (simp only [List.map_append, List.map_cons, List.map_nil, List.nil_append, encOp] <;> rfl)
        have hl241 : List.length (List.map encOp (m_out) : List (List AV)) + List.length ([[AV.int .i64 ((y237).1.op), AV.int .i64 ((y237).1.n), AV.int .i64 ((y237).1.t)]] : List (List AV)) = List.length (m_out ++ ([(y237).1] : List OpS)) := by simp only [List.length_map, List.length_append] <;> rfl
        have hl241_b : List.length m_out + List.length ([[AV.int .i64 ((y237).1.op), AV.int .i64 ((y237).1.n), AV.int .i64 ((y237).1.t)]] : List (List AV)) = List.length (m_out ++ ([(y237).1] : List OpS)) := by simp only [List.length_map, List.length_append] <;> rfl
        have hl241_c : List.length m_out + List.length ([(y237).1] : List OpS) = List.length (m_out ++ ([(y237).1] : List OpS)) := by simp only [List.length_map, List.length_append] <;> rfl
        first | simp only [hp240, hl241] | (simp only [List.length_map, take_map_len]; simp only [hp240, hl241_b, hl241_c])
        try simp only [ls]
        conv => lhs; whnf
        have hq := Option.some.inj hm; clear hm; subst hq
        try simp only [ls]
        exact fq (y := some (AV.int .i64 (IntKind.i64.wrap (v1_i + 1)), [Ob.var 87 [AV.sl 5 (List.map c_api_Node (m_l)), AV.func 27 [] [AV.ptr 1 0], AV.row 2 (List.length ((m_out ++ ([(y237).1] : List OpS)))), AV.bool ((y237).2)], Ob.var 23 [AV.sl 1 (List.map encS (o1))], Ob.row 53 3 (List.map encOp (m_out ++ ([(y237).1] : List OpS)))]))
      · simp only [hc239, ls]
        conv => lhs; whnf
        refine chk_some2 hm ?_; clear hm; intro hc245 hm
        refine bif_pos (app_row hc245 (by first | rfl | simp only [List.length_map]) (by first | rfl | simp only [List.length_map]) (by first | rfl | simp only [List.length_map, take_map_len]) (by kernel_rfl)) ?_
        try simp only [lt]
        have hp243 : (List.map encOp (m_out) : List (List AV)) ++ [[AV.int .i64 ((y237).1.op), AV.int .i64 ((y237).1.n), AV.int .i64 ((y237).1.t)]] = List.map encOp (m_out ++ ([(y237).1] : List OpS)) := by first | rfl | (rw [List.map_append]; rfl) | (rw [List.map_append]; done) | (simp only [List.map_append, List.map_cons, List.map_nil, List.nil_append, encOp] <;> rfl)
        have hl244 : List.length (List.map encOp (m_out) : List (List AV)) + List.length ([[AV.int .i64 ((y237).1.op), AV.int .i64 ((y237).1.n), AV.int .i64 ((y237).1.t)]] : List (List AV)) = List.length (m_out ++ ([(y237).1] : List OpS)) := by simp only [List.length_map, List.length_append] <;> rfl
        have hl244_b : List.length m_out + List.length ([[AV.int .i64 ((y237).1.op), AV.int .i64 ((y237).1.n), AV.int .i64 ((y237).1.t)]] : List (List AV)) = List.length (m_out ++ ([(y237).1] : List OpS)) := by simp only [List.length_map, List.length_append] <;> rfl
        have hl244_c : List.length m_out + List.length ([(y237).1] : List OpS) = List.length (m_out ++ ([(y237).1] : List OpS)) := by simp only [List.length_map, List.length_append] <;> rfl
        first | simp only [hp243, hl244] | (simp only [List.length_map, take_map_len]; simp only [hp243, hl244_b, hl244_c])
        try simp only [ls]
        conv => lhs; whnf
        have hq := Option.some.inj hm; clear hm; subst hq
        try simp only [ls]
        exact fq (y := some (AV.int .i64 (IntKind.i64.wrap (v1_i + 1)), [Ob.var 87 [AV.sl 5 (List.map c_api_Node (m_l)), AV.func 27 [] [AV.ptr 1 0], AV.row 2 (List.length ((m_out ++ ([(y237).1] : List OpS)))), AV.bool (false)], Ob.var 23 [AV.sl 1 (List.map encS (o1))], Ob.row 53 3 (List.map encOp (m_out ++ ([(y237).1] : List OpS)))]))
  | c7 y11 =>
    dsimp only at hm
    have hk3 : call false 37 [AV.int .i64 (x1.f_Op)] [] = some (AV.tup [AV.agg [AV.int .i64 ((y11).1), AV.func 53 [] []], AV.bool ((y11).2)], []) := (hc _ _ _).trans (ok_code_of n x1.f_Op (.c7 y11) hy2)
    try simp only [List.drop_zero, ls]
    first | simp only [hk3] | rewrite [hk3]
    try simp only [ls]
    conv => lhs; whnf
    refine bif_or2 hm ?_ ?_ <;> clear hm <;> intro hc246 hm
    · simp only [hc246, ls]
      conv => lhs; whnf
      refine bind_some2 hm ?_; clear hm; intro o258 ho258 hm
      refine rounds_sim (σ := (Int × Int × Bool × (List OpS))) (τ := (Int × Bool × (List OpS))) (ν := (Int × (List OpS) × Bool)) 0 (fun (s247, s248, s249, s250) a252 => stOf 80 [(0, AV.ptr 0 0), (5, AV.ptr 3 0), (10, AV.int .i64 (s247)), (60, AV.int .i64 ((y11).1)), (61, AV.int .i64 (s248))]) (fun (s247, s248, s249, s250) a252 => [Ob.var 87 [AV.sl 5 (List.map c_api_Node (m_l)), AV.func 27 [] [AV.ptr 1 0], AV.row 2 (List.length (s250)), AV.bool (s249)], Ob.var 23 [AV.sl 1 (List.map encS (o1))], Ob.row 53 3 (List.map encOp (s250)), Ob.var 57 [AV.int .i64 (x1.f_Op), AV.int .i64 (x1.f_N), AV.str (x1.f_Name), AV.str (x1.f_In), AV.int .i64 (x1.f_At)], Ob.var 74 [AV.int .i64 ((y11).1), AV.func 53 [] []]]) (fun (x263, x264, x265) a262 => stOf 80 [(0, AV.ptr 0 0), (5, AV.ptr 3 0), (10, AV.int .i64 (x263))]) (fun (x263, x264, x265) a262 => [Ob.var 87 [AV.sl 5 (List.map c_api_Node (m_l)), AV.func 27 [] [AV.ptr 1 0], AV.row 2 (List.length (x265)), AV.bool (x264)], Ob.var 23 [AV.sl 1 (List.map encS (o1))], Ob.row 53 3 (List.map encOp (x265)), Ob.var 57 [AV.int .i64 (x1.f_Op), AV.int .i64 (x1.f_N), AV.str (x1.f_Name), AV.str (x1.f_In), AV.int .i64 (x1.f_At)], Ob.var 74 [AV.int .i64 ((y11).1), AV.func 53 [] []]]) (fun v => (AV.int .i64 ((v).1), [Ob.var 87 [AV.sl 5 (List.map c_api_Node (m_l)), AV.func 27 [] [AV.ptr 1 0], AV.row 2 (List.length ((v).2.1)), AV.bool ((v).2.2)], Ob.var 23 [AV.sl 1 (List.map encS (o1))], Ob.row 53 3 (List.map encOp ((v).2.1))])) (fun k s => code_maker_node_L7 n (m_code_maker_node n) m_l o1 y11 k ((s).1) ((s).2.1) ((s).2.2.1) ((s).2.2.2)) (fun s => rfl) o258 ?_ n (IntKind.i64.wrap (v1_i + 1), 0, m_ok, m_out) (fun _ => 0) _ _ ho258 ?_ (by first | rfl | (simp only [ls, List.map_append, List.map_cons, List.map_nil, List.append_nil, List.length_set, length_copyL] <;> rfl)) (by first | rfl | (simp only [ls, List.map_append, List.map_cons, List.map_nil, List.append_nil, List.length_set, length_copyL] <;> rfl))
      · intro k251 ss a252 K253 cont254 hK255 hcont256 hm hr257
        obtain ⟨s247, s248, s249, s250⟩ := ss
        replace hm : code_maker_node_L7 n (m_code_maker_node n) m_l o1 y11 (k251 + 1) s247 s248 s249 s250 = some o258 := hm
        rw [code_maker_node_L7] at hm
        conv => lhs; whnf
        refine bif_or2 hm ?_ ?_ <;> clear hm <;> intro hc259 hm
        · simp only [hc259, ls]
          conv => lhs; whnf
          refine bind_some2 hm ?_; clear hm; intro y260 hy260 hm
          have hk261 : call false 45 [AV.ptr 0 0, AV.int .i64 (s247)] [Ob.var 87 [AV.sl 5 (List.map c_api_Node (m_l)), AV.func 27 [] [AV.ptr 1 0], AV.row 2 (List.length (s250)), AV.bool (s249)], Ob.var 23 [AV.sl 1 (List.map encS (o1))], Ob.row 53 3 (List.map encOp (s250))] = some (AV.int .i64 ((y260).1), [Ob.var 87 [AV.sl 5 (List.map c_api_Node (m_l)), AV.func 27 [] [AV.ptr 1 0], AV.row 2 (List.length ((y260).2.1)), AV.bool ((y260).2.2)], Ob.var 23 [AV.sl 1 (List.map encS (o1))], Ob.row 53 3 (List.map encOp ((y260).2.1))]) := (hc _ _ _).trans (ih_code_maker_node s247 m_l s250 s249 o1 y260 hy260)
          try simp only [List.drop_zero, ls]
          first | simp only [hk261] | rewrite [hk261]
          try simp only [ls]
          conv => lhs; whnf
          exact cq (hcont256 ((y260).1, IntKind.i64.wrap (s248 + 1), (y260).2.2, (y260).2.1) (fun _ => 0) hm)
        · simp only [hc259, ls]
          conv => lhs; whnf
          have hq := Option.some.inj hm; clear hm; subst hq
          exact kq (hr257 (fun _ => 0))
      · cases o258 with
        | ret v =>
          have hq := Option.some.inj hm; clear hm; subst hq
          rfl
        | out t =>
          obtain ⟨x263, x264, x265⟩ := t
          intro a262
          dsimp only at hm
          conv => lhs; whnf
          refine chk_some2 hm ?_; clear hm; intro hc268 hm
          refine bif_pos (app_row hc268 (by first | rfl | simp only [List.length_map]) (by first | rfl | simp only [List.length_map]) (by first | rfl | simp only [List.length_map, take_map_len]) (by kernel_rfl)) ?_
          try simp only [lt]
          have hp266 : (List.map encOp (x265) : List (List AV)) ++ [[AV.int .i64 (x1.f_Op), AV.int .i64 (0), AV.int .i64 (0)]] = List.map encOp (x265 ++ ([(⟨x1.f_Op, 0, 0⟩ : OpS)] : List OpS)) := by first | rfl | (rw [List.map_append]; rfl) | (rw [List.map_append]; done) | (simp only [List.map_append, List.map_cons, List.map_nil, List.nil_append, encOp] <;> rfl)
          have hl267 : List.length (List.map encOp (x265) : List (List AV)) + List.length ([[AV.int .i64 (x1.f_Op), AV.int .i64 (0), AV.int .i64 (0)]] : List (List AV)) = List.length (x265 ++ ([(⟨x1.f_Op, 0, 0⟩ : OpS)] : List OpS)) := by simp only [List.length_map, List.length_append] <;> rfl
          have hl267_b : List.length x265 + List.length ([[AV.int .i64 (x1.f_Op), AV.int .i64 (0), AV.int .i64 (0)]] : List (List AV)) = List.length (x265 ++ ([(⟨x1.f_Op, 0, 0⟩ : OpS)] : List OpS)) := by simp only [List.length_map, List.length_append] <;> rfl
          have hl267_c : List.length x265 + List.length ([(⟨x1.f_Op, 0, 0⟩ : OpS)] : List OpS) = List.length (x265 ++ ([(⟨x1.f_Op, 0, 0⟩ : OpS)] : List OpS)) := by simp only [List.length_map, List.length_append] <;> rfl
          first | simp only [hp266, hl267] | (simp only [List.length_map, take_map_len]; simp only [hp266, hl267_b, hl267_c])
          try simp only [ls]
          conv => lhs; whnf
          have hq := Option.some.inj hm; clear hm; subst hq
          try simp only [ls]
          exact fq (y := some (AV.int .i64 (x263), [Ob.var 87 [AV.sl 5 (List.map c_api_Node (m_l)), AV.func 27 [] [AV.ptr 1 0], AV.row 2 (List.length ((x265 ++ ([(⟨x1.f_Op, 0, 0⟩ : OpS)] : List OpS)))), AV.bool (x264)], Ob.var 23 [AV.sl 1 (List.map encS (o1))], Ob.row 53 3 (List.map encOp (x265 ++ ([(⟨x1.f_Op, 0, 0⟩ : OpS)] : List OpS)))]))
    · simp only [hc246, ls]
      conv => lhs; whnf
      refine bind_some2 hm ?_; clear hm; intro y270 hy270 hm
      have hk271 : call false 27 [AV.agg [AV.int .i64 (x1.f_Op), AV.int .i64 (x1.f_N), AV.str (x1.f_Name), AV.str (x1.f_In), AV.int .i64 (x1.f_At)], AV.ptr 0 0] [Ob.var 23 [AV.sl 1 (List.map encS (o1))]] = some (AV.tup [AV.agg [AV.int .i64 ((y270).1.op), AV.int .i64 ((y270).1.n), AV.int .i64 ((y270).1.t)], AV.bool ((y270).2)], [Ob.var 23 [AV.sl 1 (List.map encS (o1))]]) := (hc _ _ _).trans (ok_code_Thread_1 n x1 o1 y270 hy270)
      try simp only [List.drop_zero, ls]
      first | simp only [hk271] | rewrite [hk271]
      try simp only [ls]
      conv => lhs; whnf
      refine bif_or2 hm ?_ ?_ <;> clear hm <;> intro hc272 hm
      · simp only [hc272, ls]
        conv => lhs; whnf
        refine chk_some2 hm ?_; clear hm; intro hc275 hm
        refine bif_pos (app_row hc275 (by first | rfl | simp only [List.length_map]) (by first | rfl | simp only [List.length_map]) (by first | rfl | simp only [List.length_map, take_map_len]) (by kernel_rfl)) ?_
        try simp only [lt]
        have hp273 : (List.map encOp (m_out) : List (List AV)) ++ [[AV.int .i64 ((y270).1.op), AV.int .i64 ((y270).1.n), AV.int .i64 ((y270).1.t)]] = List.map encOp (m_out ++ ([(y270).1] : List OpS)) := by first | rfl | (rw [List.map_append]; rfl) | (rw [List.map_append]; done) | (simp only [List.map_append, List.map_cons, List.map_nil, List.nil_append, encOp] <;> rfl)
        have hl274 : List.length (List.map encOp (m_out) : List (List AV)) + List.length ([[AV.int .i64 ((y270).1.op), AV.int .i64 ((y270).1.n), AV.int .i64 ((y270).1.t)]] : List (List AV)) = List.length (m_out ++ ([(y270).1] : List OpS)) := by simp only [List.length_map, List.length_append] <;> rfl
        have hl274_b : List.length m_out + List.length ([[AV.int .i64 ((y270).1.op), AV.int .i64 ((y270).1.n), AV.int .i64 ((y270).1.t)]] : List (List AV)) = List.length (m_out ++ ([(y270).1] : List OpS)) := by simp only [List.length_map, List.length_append] <;> rfl
        have hl274_c : List.length m_out + List.length ([(y270).1] : List OpS) = List.length (m_out ++ ([(y270).1] : List OpS)) := by simp only [List.length_map, List.length_append] <;> rfl
        first | simp only [hp273, hl274] | (simp only [List.length_map, take_map_len]; simp only [hp273, hl274_b, hl274_c])
        try simp only [ls]
        conv => lhs; whnf
        have hq := Option.some.inj hm; clear hm; subst hq
        try simp only [ls]
        exact fq (y := some (AV.int .i64 (IntKind.i64.wrap (v1_i + 1)), [Ob.var 87 [AV.sl 5 (List.map c_api_Node (m_l)), AV.func 27 [] [AV.ptr 1 0], AV.row 2 (List.length ((m_out ++ ([(y270).1] : List OpS)))), AV.bool ((y270).2)], Ob.var 23 [AV.sl 1 (List.map encS (o1))], Ob.row 53 3 (List.map encOp (m_out ++ ([(y270).1] : List OpS)))]))
      · simp only [hc272, ls]
        conv => lhs; whnf
        refine chk_some2 hm ?_; clear hm; intro hc278 hm
        refine bif_pos (app_row hc278 (by first | rfl | simp only [List.length_map]) (by first | rfl | simp only [List.length_map]) (by first | rfl | simp only [List.length_map, take_map_len]) (by kernel_rfl)) ?_
        try simp only [lt]
        have hp276 : (List.map encOp (m_out) : List (List AV)) ++ [[AV.int .i64 ((y270).1.op), AV.int .i64 ((y270).1.n), AV.int .i64 ((y270).1.t)]] = List.map encOp (m_out ++ ([(y270).1] : List OpS)) := by first | rfl | (rw [List.map_append]; rfl) | (rw [List.map_append]; done) | (simp only [List.map_append, List.map_cons, List.map_nil, List.nil_append, encOp] <;> rfl)
        have hl277 : List.length (List.map encOp (m_out) : List (List AV)) + List.length ([[AV.int .i64 ((y270).1.op), AV.int .i64 ((y270).1.n), AV.int .i64 ((y270).1.t)]] : List (List AV)) = List.length (m_out ++ ([(y270).1] : List OpS)) := by simp only [List.length_map, List.length_append] <;> rfl
        have hl277_b : List.length m_out + List.length ([[AV.int .i64 ((y270).1.op), AV.int .i64 ((y270).1.n), AV.int .i64 ((y270).1.t)]] : List (List AV)) = List.length (m_out ++ ([(y270).1] : List OpS)) := by simp only [List.length_map, List.length_append] <;> rfl
        have hl277_c : List.length m_out + List.length ([(y270).1] : List OpS) = List.length (m_out ++ ([(y270).1] : List OpS)) := by simp only [List.length_map, List.length_append] <;> rfl
        first | simp only [hp276, hl277] | (simp only [List.length_map, take_map_len]; simp only [hp276, hl277_b, hl277_c])
        try simp only [ls]
        conv => lhs; whnf
        have hq := Option.some.inj hm; clear hm; subst hq
        try simp only [ls]
        exact fq (y := some (AV.int .i64 (IntKind.i64.wrap (v1_i + 1)), [Ob.var 87 [AV.sl 5 (List.map c_api_Node (m_l)), AV.func 27 [] [AV.ptr 1 0], AV.row 2 (List.length ((m_out ++ ([(y270).1] : List OpS)))), AV.bool (false)], Ob.var 23 [AV.sl 1 (List.map encS (o1))], Ob.row 53 3 (List.map encOp (m_out ++ ([(y270).1] : List OpS)))]))
  | c8 y12 =>
    dsimp only at hm
    have hk3 : call false 37 [AV.int .i64 (x1.f_Op)] [] = some (AV.tup [AV.agg [AV.int .i64 ((y12).1), AV.func 52 [] []], AV.bool ((y12).2)], []) := (hc _ _ _).trans (ok_code_of n x1.f_Op (.c8 y12) hy2)
    try simp only [List.drop_zero, ls]
    first | simp only [hk3] | rewrite [hk3]
    try simp only [ls]
    conv => lhs; whnf
    refine bif_or2 hm ?_ ?_ <;> clear hm <;> intro hc279 hm
    · simp only [hc279, ls]
      conv => lhs; whnf
      refine bind_some2 hm ?_; clear hm; intro o291 ho291 hm
      refine rounds_sim (σ := (Int × Int × Bool × (List OpS))) (τ := (Int × Bool × (List OpS))) (ν := (Int × (List OpS) × Bool)) 0 (fun (s280, s281, s282, s283) a285 => stOf 80 [(0, AV.ptr 0 0), (5, AV.ptr 3 0), (10, AV.int .i64 (s280)), (60, AV.int .i64 ((y12).1)), (61, AV.int .i64 (s281))]) (fun (s280, s281, s282, s283) a285 => [Ob.var 87 [AV.sl 5 (List.map c_api_Node (m_l)), AV.func 27 [] [AV.ptr 1 0], AV.row 2 (List.length (s283)), AV.bool (s282)], Ob.var 23 [AV.sl 1 (List.map encS (o1))], Ob.row 53 3 (List.map encOp (s283)), Ob.var 57 [AV.int .i64 (x1.f_Op), AV.int .i64 (x1.f_N), AV.str (x1.f_Name), AV.str (x1.f_In), AV.int .i64 (x1.f_At)], Ob.var 74 [AV.int .i64 ((y12).1), AV.func 52 [] []]]) (fun (x296, x297, x298) a295 => stOf 80 [(0, AV.ptr 0 0), (5, AV.ptr 3 0), (10, AV.int .i64 (x296))]) (fun (x296, x297, x298) a295 => [Ob.var 87 [AV.sl 5 (List.map c_api_Node (m_l)), AV.func 27 [] [AV.ptr 1 0], AV.row 2 (List.length (x298)), AV.bool (x297)], Ob.var 23 [AV.sl 1 (List.map encS (o1))], Ob.row 53 3 (List.map encOp (x298)), Ob.var 57 [AV.int .i64 (x1.f_Op), AV.int .i64 (x1.f_N), AV.str (x1.f_Name), AV.str (x1.f_In), AV.int .i64 (x1.f_At)], Ob.var 74 [AV.int .i64 ((y12).1), AV.func 52 [] []]]) (fun v => (AV.int .i64 ((v).1), [Ob.var 87 [AV.sl 5 (List.map c_api_Node (m_l)), AV.func 27 [] [AV.ptr 1 0], AV.row 2 (List.length ((v).2.1)), AV.bool ((v).2.2)], Ob.var 23 [AV.sl 1 (List.map encS (o1))], Ob.row 53 3 (List.map encOp ((v).2.1))])) (fun k s => code_maker_node_L8 n (m_code_maker_node n) m_l o1 y12 k ((s).1) ((s).2.1) ((s).2.2.1) ((s).2.2.2)) (fun s => rfl) o291 ?_ n (IntKind.i64.wrap (v1_i + 1), 0, m_ok, m_out) (fun _ => 0) _ _ ho291 ?_ (by first | rfl | (simp only [ls, List.map_append, List.map_cons, List.map_nil, List.append_nil, List.length_set, length_copyL] <;> rfl)) (by first | rfl | (simp only [ls, List.map_append, List.map_cons, List.map_nil, List.append_nil, List.length_set, length_copyL] <;> rfl))
      · intro k284 ss a285 K286 cont287 hK288 hcont289 hm hr290
        obtain ⟨s280, s281, s282, s283⟩ := ss
        replace hm : code_maker_node_L8 n (m_code_maker_node n) m_l o1 y12 (k284 + 1) s280 s281 s282 s283 = some o291 := hm
        rw [code_maker_node_L8] at hm
        conv => lhs; whnf
        refine bif_or2 hm ?_ ?_ <;> clear hm <;> intro hc292 hm
        · simp only [hc292, ls]
          conv => lhs; whnf
          refine bind_some2 hm ?_; clear hm; intro y293 hy293 hm
          have hk294 : call false 45 [AV.ptr 0 0, AV.int .i64 (s280)] [Ob.var 87 [AV.sl 5 (List.map c_api_Node (m_l)), AV.func 27 [] [AV.ptr 1 0], AV.row 2 (List.length (s283)), AV.bool (s282)], Ob.var 23 [AV.sl 1 (List.map encS (o1))], Ob.row 53 3 (List.map encOp (s283))] = some (AV.int .i64 ((y293).1), [Ob.var 87 [AV.sl 5 (List.map c_api_Node (m_l)), AV.func 27 [] [AV.ptr 1 0], AV.row 2 (List.length ((y293).2.1)), AV.bool ((y293).2.2)], Ob.var 23 [AV.sl 1 (List.map encS (o1))], Ob.row 53 3 (List.map encOp ((y293).2.1))]) := (hc _ _ _).trans (ih_code_maker_node s280 m_l s283 s282 o1 y293 hy293)
          try simp only [List.drop_zero, ls]
          first | simp only [hk294] | rewrite [hk294]
          try simp only [ls]
          conv => lhs; whnf
          exact cq (hcont289 ((y293).1, IntKind.i64.wrap (s281 + 1), (y293).2.2, (y293).2.1) (fun _ => 0) hm)
        · simp only [hc292, ls]
          conv => lhs; whnf
          have hq := Option.some.inj hm; clear hm; subst hq
          exact kq (hr290 (fun _ => 0))
      · cases o291 with
        | ret v =>
          have hq := Option.some.inj hm; clear hm; subst hq
          rfl
        | out t =>
          obtain ⟨x296, x297, x298⟩ := t
          intro a295
          dsimp only at hm
          conv => lhs; whnf
          refine chk_some2 hm ?_; clear hm; intro hc301 hm
          refine bif_pos (app_row hc301 (by first | rfl | simp only [List.length_map]) (by first | rfl | simp only [List.length_map]) (by first | rfl | simp only [List.length_map, take_map_len]) (by kernel_rfl)) ?_
          try simp only [lt]
          have hp299 : (List.map encOp (x298) : List (List AV)) ++ [[AV.int .i64 (x1.f_Op), AV.int .i64 (0), AV.int .i64 (0)]] = List.map encOp (x298 ++ ([(⟨x1.f_Op, 0, 0⟩ : OpS)] : List OpS)) := by first | rfl | (rw [List.map_append]; rfl) | (rw [List.map_append]; done) | (simp only [List.map_append, List.map_cons, List.map_nil, List.nil_append, encOp] <;> rfl)
          have hl300 : List.length (List.map encOp (x298) : List (List AV)) + List.length ([[AV.int .i64 (x1.f_Op), AV.int .i64 (0), AV.int .i64 (0)]] : List (List AV)) = List.length (x298 ++ ([(⟨x1.f_Op, 0, 0⟩ : OpS)] : List OpS)) := by simp only [List.length_map, List.length_append] <;> rfl
          have hl300_b : List.length x298 + List.length ([[AV.int .i64 (x1.f_Op), AV.int .i64 (0), AV.int .i64 (0)]] : List (List AV)) = List.length (x298 ++ ([(⟨x1.f_Op, 0, 0⟩ : OpS)] : List OpS)) := by simp only [List.length_map, List.length_append] <;> rfl
          have hl300_c : List.length x298 + List.length ([(⟨x1.f_Op, 0, 0⟩ : OpS)] : List OpS) = List.length (x298 ++ ([(⟨x1.f_Op, 0, 0⟩ : OpS)] : List OpS)) := by simp only [List.length_map, List.length_append] <;> rfl
          first | simp only [hp299, hl300] | (simp only [List.length_map, take_map_len]; simp only [hp299, hl300_b, hl300_c])
          try simp only [ls]
          conv => lhs; whnf
          have hq := Option.some.inj hm; clear hm; subst hq
          try simp only [ls]
          exact fq (y := some (AV.int .i64 (x296), [Ob.var 87 [AV.sl 5 (List.map c_api_Node (m_l)), AV.func 27 [] [AV.ptr 1 0], AV.row 2 (List.length ((x298 ++ ([(⟨x1.f_Op, 0, 0⟩ : OpS)] : List OpS)))), AV.bool (x297)], Ob.var 23 [AV.sl 1 (List.map encS (o1))], Ob.row 53 3 (List.map encOp (x298 ++ ([(⟨x1.f_Op, 0, 0⟩ : OpS)] : List OpS)))]))
    · simp only [hc279, ls]
      conv => lhs; whnf
      refine bind_some2 hm ?_; clear hm; intro y303 hy303 hm
      have hk304 : call false 27 [AV.agg [AV.int .i64 (x1.f_Op), AV.int .i64 (x1.f_N), AV.str (x1.f_Name), AV.str (x1.f_In), AV.int .i64 (x1.f_At)], AV.ptr 0 0] [Ob.var 23 [AV.sl 1 (List.map encS (o1))]] = some (AV.tup [AV.agg [AV.int .i64 ((y303).1.op), AV.int .i64 ((y303).1.n), AV.int .i64 ((y303).1.t)], AV.bool ((y303).2)], [Ob.var 23 [AV.sl 1 (List.map encS (o1))]]) := (hc _ _ _).trans (ok_code_Thread_1 n x1 o1 y303 hy303)
      try simp only [List.drop_zero, ls]
      first | simp only [hk304] | rewrite [hk304]
      try simp only [ls]
      conv => lhs; whnf
      refine bif_or2 hm ?_ ?_ <;> clear hm <;> intro hc305 hm
      · simp only [hc305, ls]
        conv => lhs; whnf
        refine chk_some2 hm ?_; clear hm; intro hc308 hm
        refine bif_pos (app_row hc308 (by first | rfl | simp only [List.length_map]) (by first | rfl | simp only [List.length_map]) (by first | rfl | simp only [List.length_map, take_map_len]) (by kernel_rfl)) ?_
        try simp only [lt]
        have hp306 : (List.map encOp (m_out) : List (List AV)) ++ [[AV.int .i64 ((y303).1.op), AV.int .i64 ((y303).1.n), AV.int .i64 ((y303).1.t)]] = List.map encOp (m_out ++ ([(y303).1] : List OpS)) := by first | rfl | (rw [List.map_append]; rfl) | (rw [List.map_append]; done) | (simp only [List.map_append, List.map_cons, List.map_nil, List.nil_append, encOp] <;> rfl)
        have hl307 : List.length (List.map encOp (m_out) : List (List AV)) + List.length ([[AV.int .i64 ((y303).1.op), AV.int .i64 ((y303).1.n), AV.int .i64 ((y303).1.t)]] : List (List AV)) = List.length (m_out ++ ([(y303).1] : List OpS)) := by simp only [List.length_map, List.length_append] <;> rfl
        have hl307_b : List.length m_out + List.length ([[AV.int .i64 ((y303).1.op), AV.int .i64 ((y303).1.n), AV.int .i64 ((y303).1.t)]] : List (List AV)) = List.length (m_out ++ ([(y303).1] : List OpS)) := by simp only [List.length_map, List.length_append] <;> rfl
        have hl307_c : List.length m_out + List.length ([(y303).1] : List OpS) = List.length (m_out ++ ([(y303).1] : List OpS)) := by simp only [List.length_map, List.length_append] <;> rfl
        first | simp only [hp306, hl307] | (simp only [List.length_map, take_map_len]; simp only [hp306, hl307_b, hl307_c])
        try simp only [ls]
        conv => lhs; whnf
        have hq := Option.some.inj hm; clear hm; subst hq
        try simp only [ls]
        exact fq (y := some (AV.int .i64 (IntKind.i64.wrap (v1_i + 1)), [Ob.var 87 [AV.sl 5 (List.map c_api_Node (m_l)), AV.func 27 [] [AV.ptr 1 0], AV.row 2 (List.length ((m_out ++ ([(y303).1] : List OpS)))), AV.bool ((y303).2)], Ob.var 23 [AV.sl 1 (List.map encS (o1))], Ob.row 53 3 (List.map encOp (m_out ++ ([(y303).1] : List OpS)))]))
      · simp only [hc305, ls]
        conv => lhs; whnf
        refine chk_some2 hm ?_; clear hm; intro hc311 hm
        refine bif_pos (app_row hc311 (by first | rfl | simp only [List.length_map]) (by first | rfl | simp only [List.length_map]) (by first | rfl | simp only [List.length_map, take_map_len]) (by kernel_rfl)) ?_
        try simp only [lt]
        have hp309 : (List.map encOp (m_out) : List (List AV)) ++ [[AV.int .i64 ((y303).1.op), AV.int .i64 ((y303).1.n), AV.int .i64 ((y303).1.t)]] = List.map encOp (m_out ++ ([(y303).1] : List OpS)) := by first | rfl | (rw [List.map_append]; rfl) | (rw [List.map_append]; done) | (simp only [List.map_append, List.map_cons, List.map_nil, List.nil_append, encOp] <;> rfl)
        have hl310 : List.length (List.map encOp (m_out) : List (List AV)) + List.length ([[AV.int .i64 ((y303).1.op), AV.int .i64 ((y303).1.n), AV.int .i64 ((y303).1.t)]] : List (List AV)) = List.length (m_out ++ ([(y303).1] : List OpS)) := by simp only [List.length_map, List.length_append] <;> rfl
        have hl310_b : List.length m_out + List.length ([[AV.int .i64 ((y303).1.op), AV.int .i64 ((y303).1.n), AV.int .i64 ((y303).1.t)]] : List (List AV)) = List.length (m_out ++ ([(y303).1] : List OpS)) := by simp only [List.length_map, List.length_append] <;> rfl
        have hl310_c : List.length m_out + List.length ([(y303).1] : List OpS) = List.length (m_out ++ ([(y303).1] : List OpS)) := by simp only [List.length_map, List.length_append] <;> rfl
        first | simp only [hp309, hl310] | (simp only [List.length_map, take_map_len]; simp only [hp309, hl310_b, hl310_c])
        try simp only [ls]
        conv => lhs; whnf
        have hq := Option.some.inj hm; clear hm; subst hq
        try simp only [ls]
        exact fq (y := some (AV.int .i64 (IntKind.i64.wrap (v1_i + 1)), [Ob.var 87 [AV.sl 5 (List.map c_api_Node (m_l)), AV.func 27 [] [AV.ptr 1 0], AV.row 2 (List.length ((m_out ++ ([(y303).1] : List OpS)))), AV.bool (false)], Ob.var 23 [AV.sl 1 (List.map encS (o1))], Ob.row 53 3 (List.map encOp (m_out ++ ([(y303).1] : List OpS)))]))
  | c9 y13 =>
    dsimp only at hm
    have hk3 : call false 37 [AV.int .i64 (x1.f_Op)] [] = some (AV.tup [AV.agg [AV.int .i64 ((y13).1), AV.func 51 [] []], AV.bool ((y13).2)], []) := (hc _ _ _).trans (ok_code_of n x1.f_Op (.c9 y13) hy2)
    try simp only [List.drop_zero, ls]
    first | simp only [hk3] | rewrite [hk3]
    try simp only [ls]
    conv => lhs; whnf
    refine bif_or2 hm ?_ ?_ <;> clear hm <;> intro hc312 hm
    · simp only [hc312, ls]
      conv => lhs; whnf
      refine bind_some2 hm ?_; clear hm; intro o324 ho324 hm
      refine rounds_sim (σ := (Int × Int × Bool × (List OpS))) (τ := (Int × Bool × (List OpS))) (ν := (Int × (List OpS) × Bool)) 0 (fun (s313, s314, s315, s316) a318 => stOf 80 [(0, AV.ptr 0 0), (5, AV.ptr 3 0), (10, AV.int .i64 (s313)), (60, AV.int .i64 ((y13).1)), (61, AV.int .i64 (s314))]) (fun (s313, s314, s315, s316) a318 => [Ob.var 87 [AV.sl 5 (List.map c_api_Node (m_l)), AV.func 27 [] [AV.ptr 1 0], AV.row 2 (List.length (s316)), AV.bool (s315)], Ob.var 23 [AV.sl 1 (List.map encS (o1))], Ob.row 53 3 (List.map encOp (s316)), Ob.var 57 [AV.int .i64 (x1.f_Op), AV.int .i64 (x1.f_N), AV.str (x1.f_Name), AV.str (x1.f_In), AV.int .i64 (x1.f_At)], Ob.var 74 [AV.int .i64 ((y13).1), AV.func 51 [] []]]) (fun (x329, x330, x331) a328 => stOf 80 [(0, AV.ptr 0 0), (5, AV.ptr 3 0), (10, AV.int .i64 (x329))]) (fun (x329, x330, x331) a328 => [Ob.var 87 [AV.sl 5 (List.map c_api_Node (m_l)), AV.func 27 [] [AV.ptr 1 0], AV.row 2 (List.length (x331)), AV.bool (x330)], Ob.var 23 [AV.sl 1 (List.map encS (o1))], Ob.row 53 3 (List.map encOp (x331)), Ob.var 57 [AV.int .i64 (x1.f_Op), AV.int .i64 (x1.f_N), AV.str (x1.f_Name), AV.str (x1.f_In), AV.int .i64 (x1.f_At)], Ob.var 74 [AV.int .i64 ((y13).1), AV.func 51 [] []]]) (fun v => (AV.int .i64 ((v).1), [Ob.var 87 [AV.sl 5 (List.map c_api_Node (m_l)), AV.func 27 [] [AV.ptr 1 0], AV.row 2 (List.length ((v).2.1)), AV.bool ((v).2.2)], Ob.var 23 [AV.sl 1 (List.map encS (o1))], Ob.row 53 3 (List.map encOp ((v).2.1))])) (fun k s => code_maker_node_L9 n (m_code_maker_node n) m_l o1 y13 k ((s).1) ((s).2.1) ((s).2.2.1) ((s).2.2.2)) (fun s => rfl) o324 ?_ n (IntKind.i64.wrap (v1_i + 1), 0, m_ok, m_out) (fun _ => 0) _ _ ho324 ?_ (by first | rfl | (simp only [ls, List.map_append, List.map_cons, List.map_nil, List.append_nil, List.length_set, length_copyL] <;> rfl)) (by first | rfl | (simp only [ls, List.map_append, List.map_cons, List.map_nil, List.append_nil, List.length_set, length_copyL] <;> rfl))
      · intro k317 ss a318 K319 cont320 hK321 hcont322 hm hr323
        obtain ⟨s313, s314, s315, s316⟩ := ss
        replace hm : code_maker_node_L9 n (m_code_maker_node n) m_l o1 y13 (k317 + 1) s313 s314 s315 s316 = some o324 := hm
        rw [code_maker_node_L9] at hm
        conv => lhs; whnf
        refine bif_or2 hm ?_ ?_ <;> clear hm <;> intro hc325 hm
        · simp only [hc325, ls]
          conv => lhs; whnf
          refine bind_some2 hm ?_; clear hm; intro y326 hy326 hm
          have hk327 : call false 45 [AV.ptr 0 0, AV.int .i64 (s313)] [Ob.var 87 [AV.sl 5 (List.map c_api_Node (m_l)), AV.func 27 [] [AV.ptr 1 0], AV.row 2 (List.length (s316)), AV.bool (s315)], Ob.var 23 [AV.sl 1 (List.map encS (o1))], Ob.row 53 3 (List.map encOp (s316))] = some (AV.int .i64 ((y326).1), [Ob.var 87 [AV.sl 5 (List.map c_api_Node (m_l)), AV.func 27 [] [AV.ptr 1 0], AV.row 2 (List.length ((y326).2.1)), AV.bool ((y326).2.2)], Ob.var 23 [AV.sl 1 (List.map encS (o1))], Ob.row 53 3 (List.map encOp ((y326).2.1))]) := (hc _ _ _).trans (ih_code_maker_node s313 m_l s316 s315 o1 y326 hy326)
          try simp only [List.drop_zero, ls]
          first | simp only [hk327] | rewrite [hk327]
          try simp only [ls]
          conv => lhs; whnf
          exact cq (hcont322 ((y326).1, IntKind.i64.wrap (s314 + 1), (y326).2.2, (y326).2.1) (fun _ => 0) hm)
        · simp only [hc325, ls]
          conv => lhs; whnf
          have hq := Option.some.inj hm; clear hm; subst hq
          exact kq (hr323 (fun _ => 0))
      · cases o324 with
        | ret v =>
          have hq := Option.some.inj hm; clear hm; subst hq
          rfl
        | out t =>
          obtain ⟨x329, x330, x331⟩ := t
          intro a328
          dsimp only at hm
          conv => lhs; whnf
          refine chk_some2 hm ?_; clear hm; intro hc334 hm
          refine bif_pos (app_row hc334 (by first | rfl | simp only [List.length_map]) (by first | rfl | simp only [List.length_map]) (by first | rfl | simp only [List.length_map, take_map_len]) (by kernel_rfl)) ?_
          try simp only [lt]
          have hp332 : (List.map encOp (x331) : List (List AV)) ++ [[AV.int .i64 (x1.f_Op), AV.int .i64 (0), AV.int .i64 (0)]] = List.map encOp (x331 ++ ([(⟨x1.f_Op, 0, 0⟩ : OpS)] : List OpS)) := by first | rfl | (rw [List.map_append]; rfl) | (rw [List.map_append]; done) | (simp only [List.map_append, List.map_cons, List.map_nil, List.nil_append, encOp] <;> rfl)
          have hl333 : List.length (List.map encOp (x331) : List (List AV)) + List.length ([[AV.int .i64 (x1.f_Op), AV.int .i64 (0), AV.int .i64 (0)]] : List (List AV)) = List.length (x331 ++ ([(⟨x1.f_Op, 0, 0⟩ : OpS)] : List OpS)) := by simp only [List.length_map, List.length_append] <;> rfl
          have hl333_b : List.length x331 + List.length ([[AV.int .i64 (x1.f_Op), AV.int .i64 (0), AV.int .i64 (0)]] : List (List AV)) = List.length (x331 ++ ([(⟨x1.f_Op, 0, 0⟩ : OpS)] : List OpS)) := by simp only [List.length_map, List.length_append] <;> rfl
          have hl333_c : List.length x331 + List.length ([(⟨x1.f_Op, 0, 0⟩ : OpS)] : List OpS) = List.length (x331 ++ ([(⟨x1.f_Op, 0, 0⟩ : OpS)] : List OpS)) := by simp only [List.length_map, List.length_append] <;> rfl
          first | simp only [hp332, hl333] | (simp only [List.length_map, take_map_len]; simp only [hp332, hl333_b, hl333_c])
          try simp only [ls]
          conv => lhs; whnf
          have hq := Option.some.inj hm; clear hm; subst hq
          try simp only [ls]
          exact fq (y := some (AV.int .i64 (x329), [Ob.var 87 [AV.sl 5 (List.map c_api_Node (m_l)), AV.func 27 [] [AV.ptr 1 0], AV.row 2 (List.length ((x331 ++ ([(⟨x1.f_Op, 0, 0⟩ : OpS)] : List OpS)))), AV.bool (x330)], Ob.var 23 [AV.sl 1 (List.map encS (o1))], Ob.row 53 3 (List.map encOp (x331 ++ ([(⟨x1.f_Op, 0, 0⟩ : OpS)] : List OpS)))]))
    · simp only [hc312, ls]
      conv => lhs; whnf
      refine bind_some2 hm ?_; clear hm; intro y336 hy336 hm
      have hk337 : call false 27 [AV.agg [AV.int .i64 (x1.f_Op), AV.int .i64 (x1.f_N), AV.str (x1.f_Name), AV.str (x1.f_In), AV.int .i64 (x1.f_At)], AV.ptr 0 0] [Ob.var 23 [AV.sl 1 (List.map encS (o1))]] = some (AV.tup [AV.agg [AV.int .i64 ((y336).1.op), AV.int .i64 ((y336).1.n), AV.int .i64 ((y336).1.t)], AV.bool ((y336).2)], [Ob.var 23 [AV.sl 1 (List.map encS (o1))]]) := (hc _ _ _).trans (ok_code_Thread_1 n x1 o1 y336 hy336)
      try simp only [List.drop_zero, ls]
      first | simp only [hk337] | rewrite [hk337]
      try simp only [ls]
      conv => lhs; whnf
      refine bif_or2 hm ?_ ?_ <;> clear hm <;> intro hc338 hm
      · simp only [hc338, ls]
        conv => lhs; whnf
        refine chk_some2 hm ?_; clear hm; intro hc341 hm
        refine bif_pos (app_row hc341 (by first | rfl | simp only [List.length_map]) (by first | rfl | simp only [List.length_map]) (by first | rfl | simp only [List.length_map, take_map_len]) (by kernel_rfl)) ?_
        try simp only [lt]
        have hp339 : (List.map encOp (m_out) : List (List AV)) ++ [[AV.int .i64 ((y336).1.op), AV.int .i64 ((y336).1.n), AV.int .i64 ((y336).1.t)]] = List.map encOp (m_out ++ ([(y336).1] : List OpS)) := by first | rfl | (rw [List.map_append]; rfl) | (rw [List.map_append]; done) | (simp only [List.map_append, List.map_cons, List.map_nil, List.nil_append, encOp] <;> rfl)
        have hl340 : List.length (List.map encOp (m_out) : List (List AV)) + List.length ([[AV.int .i64 ((y336).1.op), AV.int .i64 ((y336).1.n), AV.int .i64 ((y336).1.t)]] : List (List AV)) = List.length (m_out ++ ([(y336).1] : List OpS)) := by simp only [List.length_map, List.length_append] <;> rfl
        have hl340_b : List.length m_out + List.length ([[AV.int .i64 ((y336).1.op), AV.int .i64 ((y336).1.n), AV.int .i64 ((y336).1.t)]] : List (List AV)) = List.length (m_out ++ ([(y336).1] : List OpS)) := by simp only [List.length_map, List.length_append] <;> rfl
        have hl340_c : List.length m_out + List.length ([(y336).1] : List OpS) = List.length (m_out ++ ([(y336).1] : List OpS)) := by simp only [List.length_map, List.length_append] <;> rfl
        first | simp only [hp339, hl340] | (simp only [List.length_map, take_map_len]; simp only [hp339, hl340_b, hl340_c])
        try simp only [ls]
        conv => lhs; whnf
        have hq := Option.some.inj hm; clear hm; subst hq
        try simp only [ls]
        exact fq (y := some (AV.int .i64 (IntKind.i64.wrap (v1_i + 1)), [Ob.var 87 [AV.sl 5 (List.map c_api_Node (m_l)), AV.func 27 [] [AV.ptr 1 0], AV.row 2 (List.length ((m_out ++ ([(y336).1] : List OpS)))), AV.bool ((y336).2)], Ob.var 23 [AV.sl 1 (List.map encS (o1))], Ob.row 53 3 (List.map encOp (m_out ++ ([(y336).1] : List OpS)))]))
      · simp only [hc338, ls]
        conv => lhs; whnf
        refine chk_some2 hm ?_; clear hm; intro hc344 hm
        refine bif_pos (app_row hc344 (by first | rfl | simp only [List.length_map]) (by first | rfl | simp only [List.length_map]) (by first | rfl | simp only [List.length_map, take_map_len]) (by kernel_rfl)) ?_
        try simp only [lt]
        have hp342 : (List.map encOp (m_out) : List (List AV)) ++ [[AV.int .i64 ((y336).1.op), AV.int .i64 ((y336).1.n), AV.int .i64 ((y336).1.t)]] = List.map encOp (m_out ++ ([(y336).1] : List OpS)) := by first | rfl | (rw [List.map_append]; rfl) | (rw [List.map_append]; done) | (simp only [List.map_append, List.map_cons, List.map_nil, List.nil_append, encOp] <;> rfl)
        have hl343 : List.length (List.map encOp (m_out) : List (List AV)) + List.length ([[AV.int .i64 ((y336).1.op), AV.int .i64 ((y336).1.n), AV.int .i64 ((y336).1.t)]] : List (List AV)) = List.length (m_out ++ ([(y336).1] : List OpS)) := by simp only [List.length_map, List.length_append] <;> rfl
        have hl343_b : List.length m_out + List.length ([[AV.int .i64 ((y336).1.op), AV.int .i64 ((y336).1.n), AV.int .i64 ((y336).1.t)]] : List (List AV)) = List.length (m_out ++ ([(y336).1] : List OpS)) := by simp only [List.length_map, List.length_append] <;> rfl
        have hl343_c : List.length m_out + List.length ([(y336).1] : List OpS) = List.length (m_out ++ ([(y336).1] : List OpS)) := by simp only [List.length_map, List.length_append] <;> rfl
        first | simp only [hp342, hl343] | (simp only [List.length_map, take_map_len]; simp only [hp342, hl343_b, hl343_c])
        try simp only [ls]
        conv => lhs; whnf
        have hq := Option.some.inj hm; clear hm; subst hq
        try simp only [ls]
        exact fq (y := some (AV.int .i64 (IntKind.i64.wrap (v1_i + 1)), [Ob.var 87 [AV.sl 5 (List.map c_api_Node (m_l)), AV.func 27 [] [AV.ptr 1 0], AV.row 2 (List.length ((m_out ++ ([(y336).1] : List OpS)))), AV.bool (false)], Ob.var 23 [AV.sl 1 (List.map encS (o1))], Ob.row 53 3 (List.map encOp (m_out ++ ([(y336).1] : List OpS)))]))
  | c10 y14 =>
    dsimp only at hm
    have hk3 : call false 37 [AV.int .i64 (x1.f_Op)] [] = some (AV.tup [AV.agg [AV.int .i64 ((y14).1), AV.func 49 [] []], AV.bool ((y14).2)], []) := (hc _ _ _).trans (ok_code_of n x1.f_Op (.c10 y14) hy2)
    try simp only [List.drop_zero, ls]
    first | simp only [hk3] | rewrite [hk3]
    try simp only [ls]
    conv => lhs; whnf
    refine bif_or2 hm ?_ ?_ <;> clear hm <;> intro hc345 hm
    · simp only [hc345, ls]
      conv => lhs; whnf
      refine bind_some2 hm ?_; clear hm; intro o357 ho357 hm
      refine rounds_sim (σ := (Int × Int × Bool × (List OpS))) (τ := (Int × Bool × (List OpS))) (ν := (Int × (List OpS) × Bool)) 0 (fun (s346, s347, s348, s349) a351 => stOf 80 [(0, AV.ptr 0 0), (5, AV.ptr 3 0), (10, AV.int .i64 (s346)), (60, AV.int .i64 ((y14).1)), (61, AV.int .i64 (s347))]) (fun (s346, s347, s348, s349) a351 => [Ob.var 87 [AV.sl 5 (List.map c_api_Node (m_l)), AV.func 27 [] [AV.ptr 1 0], AV.row 2 (List.length (s349)), AV.bool (s348)], Ob.var 23 [AV.sl 1 (List.map encS (o1))], Ob.row 53 3 (List.map encOp (s349)), Ob.var 57 [AV.int .i64 (x1.f_Op), AV.int .i64 (x1.f_N), AV.str (x1.f_Name), AV.str (x1.f_In), AV.int .i64 (x1.f_At)], Ob.var 74 [AV.int .i64 ((y14).1), AV.func 49 [] []]]) (fun (x362, x363, x364) a361 => stOf 80 [(0, AV.ptr 0 0), (5, AV.ptr 3 0), (10, AV.int .i64 (x362))]) (fun (x362, x363, x364) a361 => [Ob.var 87 [AV.sl 5 (List.map c_api_Node (m_l)), AV.func 27 [] [AV.ptr 1 0], AV.row 2 (List.length (x364)), AV.bool (x363)], Ob.var 23 [AV.sl 1 (List.map encS (o1))], Ob.row 53 3 (List.map encOp (x364)), Ob.var 57 [AV.int .i64 (x1.f_Op), AV.int .i64 (x1.f_N), AV.str (x1.f_Name), AV.str (x1.f_In), AV.int .i64 (x1.f_At)], Ob.var 74 [AV.int .i64 ((y14).1), AV.func 49 [] []]]) (fun v => (AV.int .i64 ((v).1), [Ob.var 87 [AV.sl 5 (List.map c_api_Node (m_l)), AV.func 27 [] [AV.ptr 1 0], AV.row 2 (List.length ((v).2.1)), AV.bool ((v).2.2)], Ob.var 23 [AV.sl 1 (List.map encS (o1))], Ob.row 53 3 (List.map encOp ((v).2.1))])) (fun k s => code_maker_node_L10 n (m_code_maker_node n) m_l o1 y14 k ((s).1) ((s).2.1) ((s).2.2.1) ((s).2.2.2)) (fun s => rfl) o357 ?_ n (IntKind.i64.wrap (v1_i + 1), 0, m_ok, m_out) (fun _ => 0) _ _ ho357 ?_ (by first | rfl | (simp only [ls, List.map_append, List.map_cons, List.map_nil, List.append_nil, List.length_set, length_copyL] <;> rfl)) (by first | rfl | (simp only [ls, List.map_append, List.map_cons, List.map_nil, List.append_nil, List.length_set, length_copyL] <;> rfl))
      · intro k350 ss a351 K352 cont353 hK354 hcont355 hm hr356
        obtain ⟨s346, s347, s348, s349⟩ := ss
        replace hm : code_maker_node_L10 n (m_code_maker_node n) m_l o1 y14 (k350 + 1) s346 s347 s348 s349 = some o357 := hm
        rw [code_maker_node_L10] at hm
        conv => lhs; whnf
        refine bif_or2 hm ?_ ?_ <;> clear hm <;> intro hc358 hm
        · simp only [hc358, ls]
          conv => lhs; whnf
          refine bind_some2 hm ?_; clear hm; intro y359 hy359 hm
          have hk360 : call false 45 [AV.ptr 0 0, AV.int .i64 (s346)] [Ob.var 87 [AV.sl 5 (List.map c_api_Node (m_l)), AV.func 27 [] [AV.ptr 1 0], AV.row 2 (List.length (s349)), AV.bool (s348)], Ob.var 23 [AV.sl 1 (List.map encS (o1))], Ob.row 53 3 (List.map encOp (s349))] = some (AV.int .i64 ((y359).1), [Ob.var 87 [AV.sl 5 (List.map c_api_Node (m_l)), AV.func 27 [] [AV.ptr 1 0], AV.row 2 (List.length ((y359).2.1)), AV.bool ((y359).2.2)], Ob.var 23 [AV.sl 1 (List.map encS (o1))], Ob.row 53 3 (List.map encOp ((y359).2.1))]) := (hc _ _ _).trans (ih_code_maker_node s346 m_l s349 s348 o1 y359 hy359)
          try simp only [List.drop_zero, ls]
          first | simp only [hk360] | rewrite [hk360]
          try simp only [ls]
          conv => lhs; whnf
          exact cq (hcont355 ((y359).1, IntKind.i64.wrap (s347 + 1), (y359).2.2, (y359).2.1) (fun _ => 0) hm)
        · simp only [hc358, ls]
          conv => lhs; whnf
          have hq := Option.some.inj hm; clear hm; subst hq
          exact kq (hr356 (fun _ => 0))
      · cases o357 with
        | ret v =>
          have hq := Option.some.inj hm; clear hm; subst hq
          rfl
        | out t =>
          obtain ⟨x362, x363, x364⟩ := t
          intro a361
          dsimp only at hm
          conv => lhs; whnf
          refine chk_some2 hm ?_; clear hm; intro hc367 hm
          refine bif_pos (app_row hc367 (by first | rfl | simp only [List.length_map]) (by first | rfl | simp only [List.length_map]) (by first | rfl | simp only [List.length_map, take_map_len]) (by kernel_rfl)) ?_
          try simp only [lt]
          have hp365 : (List.map encOp (x364) : List (List AV)) ++ [[AV.int .i64 (x1.f_Op), AV.int .i64 (0), AV.int .i64 (0)]] = List.map encOp (x364 ++ ([(⟨x1.f_Op, 0, 0⟩ : OpS)] : List OpS)) := by first | rfl | (rw [List.map_append]; rfl) | (rw [List.map_append]; done) | (simp only [List.map_append, List.map_cons, List.map_nil, List.nil_append, encOp] <;> rfl)
          have hl366 : List.length (List.map encOp (x364) : List (List AV)) + List.length ([[AV.int .i64 (x1.f_Op), AV.int .i64 (0), AV.int .i64 (0)]] : List (List AV)) = List.length (x364 ++ ([(⟨x1.f_Op, 0, 0⟩ : OpS)] : List OpS)) := by simp only [List.length_map, List.length_append] <;> rfl
          have hl366_b : List.length x364 + List.length ([[AV.int .i64 (x1.f_Op), AV.int .i64 (0), AV.int .i64 (0)]] : List (List AV)) = List.length (x364 ++ ([(⟨x1.f_Op, 0, 0⟩ : OpS)] : List OpS)) := by simp only [List.length_map, List.length_append] <;> rfl
          have hl366_c : List.length x364 + List.length ([(⟨x1.f_Op, 0, 0⟩ : OpS)] : List OpS) = List.length (x364 ++ ([(⟨x1.f_Op, 0, 0⟩ : OpS)] : List OpS)) := by simp only [List.length_map, List.length_append] <;> rfl
          first | simp only [hp365, hl366] | (simp only [List.length_map, take_map_len]; simp only [hp365, hl366_b, hl366_c])
          try simp only [ls]
          conv => lhs; whnf
          have hq := Option.some.inj hm; clear hm; subst hq
          try simp only [ls]
          exact fq (y := some (AV.int .i64 (x362), [Ob.var 87 [AV.sl 5 (List.map c_api_Node (m_l)), AV.func 27 [] [AV.ptr 1 0], AV.row 2 (List.length ((x364 ++ ([(⟨x1.f_Op, 0, 0⟩ : OpS)] : List OpS)))), AV.bool (x363)], Ob.var 23 [AV.sl 1 (List.map encS (o1))], Ob.row 53 3 (List.map encOp (x364 ++ ([(⟨x1.f_Op, 0, 0⟩ : OpS)] : List OpS)))]))
    · simp only [hc345, ls]
      conv => lhs; whnf
      refine bind_some2 hm ?_; clear hm; intro y369 hy369 hm
      have hk370 : call false 27 [AV.agg [AV.int .i64 (x1.f_Op), AV.int .i64 (x1.f_N), AV.str (x1.f_Name), AV.str (x1.f_In), AV.int .i64 (x1.f_At)], AV.ptr 0 0] [Ob.var 23 [AV.sl 1 (List.map encS (o1))]] = some (AV.tup [AV.agg [AV.int .i64 ((y369).1.op), AV.int .i64 ((y369).1.n), AV.int .i64 ((y369).1.t)], AV.bool ((y369).2)], [Ob.var 23 [AV.sl 1 (List.map encS (o1))]]) := (hc _ _ _).trans (ok_code_Thread_1 n x1 o1 y369 hy369)
      try simp only [List.drop_zero, ls]
      first | simp only [hk370] | rewrite [hk370]
      try simp only [ls]
      conv => lhs; whnf
      refine bif_or2 hm ?_ ?_ <;> clear hm <;> intro hc371 hm
      · simp only [hc371, ls]
        conv => lhs; whnf
        refine chk_some2 hm ?_; clear hm; intro hc374 hm
        refine bif_pos (app_row hc374 (by first | rfl | simp only [List.length_map]) (by first | rfl | simp only [List.length_map]) (by first | rfl | simp only [List.length_map, take_map_len]) (by kernel_rfl)) ?_
        try simp only [lt]
        have hp372 : (List.map encOp (m_out) : List (List AV)) ++ [[AV.int .i64 ((y369).1.op), AV.int .i64 ((y369).1.n), AV.int .i64 ((y369).1.t)]] = List.map encOp (m_out ++ ([(y369).1] : List OpS)) := by first | rfl | (rw [List.map_append]; rfl) | (rw [List.map_append]; done) | (simp only [List.map_append, List.map_cons, List.map_nil, List.nil_append, encOp] <;> rfl)
        have hl373 : List.length (List.map encOp (m_out) : List (List AV)) + List.length ([[AV.int .i64 ((y369).1.op), AV.int .i64 ((y369).1.n), AV.int .i64 ((y369).1.t)]] : List (List AV)) = List.length (m_out ++ ([(y369).1] : List OpS)) := by simp only [List.length_map, List.length_append] <;> rfl
        have hl373_b : List.length m_out + List.length ([[AV.int .i64 ((y369).1.op), AV.int .i64 ((y369).1.n), AV.int .i64 ((y369).1.t)]] : List (List AV)) = List.length (m_out ++ ([(y369).1] : List OpS)) := by simp only [List.length_map, List.length_append] <;> rfl
        have hl373_c : List.length m_out + List.length ([(y369).1] : List OpS) = List.length (m_out ++ ([(y369).1] : List OpS)) := by simp only [List.length_map, List.length_append] <;> rfl
        first | simp only [hp372, hl373] | (simp only [List.length_map, take_map_len]; simp only [hp372, hl373_b, hl373_c])
        try simp only [ls]
        conv => lhs; whnf
        have hq := Option.some.inj hm; clear hm; subst hq
        try simp only [ls]
        exact fq (y := some (AV.int .i64 (IntKind.i64.wrap (v1_i + 1)), [Ob.var 87 [AV.sl 5 (List.map c_api_Node (m_l)), AV.func 27 [] [AV.ptr 1 0], AV.row 2 (List.length ((m_out ++ ([(y369).1] : List OpS)))), AV.bool ((y369).2)], Ob.var 23 [AV.sl 1 (List.map encS (o1))], Ob.row 53 3 (List.map encOp (m_out ++ ([(y369).1] : List OpS)))]))
      · simp only [hc371, ls]
        conv => lhs; whnf
        refine chk_some2 hm ?_; clear hm; intro hc377 hm
        refine bif_pos (app_row hc377 (by first | rfl | simp only [List.length_map]) (by first | rfl | simp only [List.length_map]) (by first | rfl | simp only [List.length_map, take_map_len]) (by kernel_rfl)) ?_
        try simp only [lt]
        have hp375 : (List.map encOp (m_out) : List (List AV)) ++ [[AV.int .i64 ((y369).1.op), AV.int .i64 ((y369).1.n), AV.int .i64 ((y369).1.t)]] = List.map encOp (m_out ++ ([(y369).1] : List OpS)) := by first | rfl | (rw [List.map_append]; rfl) | (rw [List.map_append]; done) | (simp only [List.map_append, List.map_cons, List.map_nil, List.nil_append, encOp] <;> rfl)
        have hl376 : List.length (List.map encOp (m_out) : List (List AV)) + List.length ([[AV.int .i64 ((y369).1.op), AV.int .i64 ((y369).1.n), AV.int .i64 ((y369).1.t)]] : List (List AV)) = List.length (m_out ++ ([(y369).1] : List OpS)) := by simp only [List.length_map, List.length_append] <;> rfl
        have hl376_b : List.length m_out + List.length ([[AV.int .i64 ((y369).1.op), AV.int .i64 ((y369).1.n), AV.int .i64 ((y369).1.t)]] : List (List AV)) = List.length (m_out ++ ([(y369).1] : List OpS)) := by simp only [List.length_map, List.length_append] <;> rfl
        have hl376_c : List.length m_out + List.length ([(y369).1] : List OpS) = List.length (m_out ++ ([(y369).1] : List OpS)) := by simp only [List.length_map, List.length_append] <;> rfl
        first | simp only [hp375, hl376] | (simp only [List.length_map, take_map_len]; simp only [hp375, hl376_b, hl376_c])
        try simp only [ls]
        conv => lhs; whnf
        have hq := Option.some.inj hm; clear hm; subst hq
        try simp only [ls]
        exact fq (y := some (AV.int .i64 (IntKind.i64.wrap (v1_i + 1)), [Ob.var 87 [AV.sl 5 (List.map c_api_Node (m_l)), AV.func 27 [] [AV.ptr 1 0], AV.row 2 (List.length ((m_out ++ ([(y369).1] : List OpS)))), AV.bool (false)], Ob.var 23 [AV.sl 1 (List.map encS (o1))], Ob.row 53 3 (List.map encOp (m_out ++ ([(y369).1] : List OpS)))]))
theorem all_code_maker_node (n : Nat) : OK_code_maker_node n := by
  induction n with
  | zero => refine ?_ <;> (unfold OK_code_maker_node; intros; rename_i hm; exact absurd hm (by intro h; cases h))
  | succ n ih =>
    exact st_code_maker_node n ih
theorem ok_code_maker_node (n : Nat) : OK_code_maker_node n := all_code_maker_node n
end Go.Proofs.Ytmnnkeejgkhgpaa
end

section
namespace Go.Proofs.Ytmnnkeejgkhgpaa
set_option linter.unusedVariables false
set_option linter.unusedSimpArgs false
set_option maxRecDepth 100000

set_option maxHeartbeats 4000000 in
theorem ok_code_made (n : Nat) : ∀ (v0_l : (List S_api_Node)) (o0 : (List (List UInt8))) (r : ((List OpS) × Bool)), m_code_made n v0_l o0 = some r → callN Try.prog HH XT n 26 [AV.sl 5 (List.map c_api_Node (v0_l)), AV.func 27 [] [AV.ptr 0 0]] [Ob.var 23 [AV.sl 1 (List.map encS (o0))]] = some (AV.tup [AV.sl 3 (List.map encOp ((r).1)), AV.bool ((r).2)], [Ob.var 23 [AV.sl 1 (List.map encS (o0))]]) := by
  cases n with
  | zero => intro v0_l o0 r hm; exact absurd hm (by intro h; cases h)
  | succ n =>
    intro v0_l o0 r hm
    rw [m_code_made] at hm
    refine callN_eq' Try.func26 (by rfl) rfl rfl (Nat.le_of_ble_eq_true rfl) ?_
    intro call hc
    conv => lhs; whnf
    refine bind_some2 hm ?_; clear hm; intro y1 hy1 hm
    have hk2 : call false 44 [AV.sl 5 (List.map c_api_Node (v0_l))] [] = some (AV.bool (y1), []) := (hc _ _ _).trans (ok_expr_Right n v0_l y1 hy1)
    try simp only [List.drop_zero, ls]
    first | simp only [hk2] | rewrite [hk2]
    try simp only [ls]
    conv => lhs; whnf
    refine bif_or2 hm ?_ ?_ <;> clear hm <;> intro hc3 hm
    · simp only [hc3, ls]
      conv => lhs; whnf
      refine bind_some2 hm ?_; clear hm; intro y4 hy4 hm
      have hk5 : call false 45 [AV.ptr 0 0, AV.int .i64 (0)] [Ob.var 87 [AV.sl 5 (List.map c_api_Node (v0_l)), AV.func 27 [] [AV.ptr 1 0], AV.row 2 (List.length (([] : List OpS))), AV.bool (true)], Ob.var 23 [AV.sl 1 (List.map encS (o0))], Ob.row 53 3 ([])] = some (AV.int .i64 ((y4).1), [Ob.var 87 [AV.sl 5 (List.map c_api_Node (v0_l)), AV.func 27 [] [AV.ptr 1 0], AV.row 2 (List.length ((y4).2.1)), AV.bool ((y4).2.2)], Ob.var 23 [AV.sl 1 (List.map encS (o0))], Ob.row 53 3 (List.map encOp ((y4).2.1))]) := (hc _ _ _).trans (ok_code_maker_node n 0 v0_l ([] : List OpS) true o0 y4 hy4)
      try simp only [List.length_nil, List.map_nil] at hk5
      try simp only [List.length_nil, List.map_nil]
      try simp only [List.drop_zero, ls]
      first | simp only [hk5] | rewrite [hk5]
      try simp only [ls]
      conv => lhs; whnf
      refine bif_or2 hm ?_ ?_ <;> clear hm <;> intro hc6 hm
      · simp only [hc6, ls]
        conv => lhs; whnf
        have hq := Option.some.inj hm; clear hm; subst hq
        try simp only [ls]
        exact fq (y := some (AV.tup [AV.sl 3 (List.take (List.length ((y4).2.1)) (List.map encOp ((y4).2.1))), AV.bool (true)], [Ob.var 23 [AV.sl 1 (List.map encS (o0))]]))
      · simp only [hc6, ls]
        conv => lhs; whnf
        have hq := Option.some.inj hm; clear hm; subst hq
        try simp only [ls]
        exact fq (y := some (AV.tup [AV.sl 3 [], AV.bool (false)], [Ob.var 23 [AV.sl 1 (List.map encS (o0))]]))
    · simp only [hc3, ls]
      conv => lhs; whnf
      have hq := Option.some.inj hm; clear hm; subst hq
      try simp only [ls]
      exact fq (y := some (AV.tup [AV.sl 3 [], AV.bool (false)], [Ob.var 23 [AV.sl 1 (List.map encS (o0))]]))

set_option maxHeartbeats 4000000 in
theorem ok_code_Thread (n : Nat) : ∀ (v0_l : (List S_api_Node)) (v1_regs : (List (List UInt8))) (r : ((List OpS) × Bool)), m_code_Thread n v0_l v1_regs = some r → callN Try.prog HH XT n 11 [AV.sl 5 (List.map c_api_Node (v0_l)), AV.sl 1 (List.map encS (v1_regs))] [] = some (AV.tup [AV.sl 3 (List.map encOp ((r).1)), AV.bool ((r).2)], []) := by
  cases n with
  | zero => intro v0_l v1_regs r hm; exact absurd hm (by intro h; cases h)
  | succ n =>
    intro v0_l v1_regs r hm
    rw [m_code_Thread] at hm
    refine callN_eq' Try.func11 (by rfl) rfl rfl (Nat.le_of_ble_eq_true rfl) ?_
    intro call hc
    conv => lhs; whnf
    refine bind_some2 hm ?_; clear hm; intro y1 hy1 hm
    have hk2 : call false 26 [AV.sl 5 (List.map c_api_Node (v0_l)), AV.func 27 [] [AV.ptr 0 0]] [Ob.var 23 [AV.sl 1 (List.map encS (v1_regs))]] = some (AV.tup [AV.sl 3 (List.map encOp ((y1).1)), AV.bool ((y1).2)], [Ob.var 23 [AV.sl 1 (List.map encS (v1_regs))]]) := (hc _ _ _).trans (ok_code_made n v0_l v1_regs y1 hy1)
    try simp only [List.drop_zero, ls]
    first | simp only [hk2] | rewrite [hk2]
    try simp only [ls]
    conv => lhs; whnf
    have hq := Option.some.inj hm; clear hm; subst hq
    try simp only [ls]
    exact fq (y := some (AV.tup [AV.sl 3 (List.map encOp ((y1).1)), AV.bool ((y1).2)], []))

set_option maxHeartbeats 4000000 in
theorem ok_code_below (n : Nat) : ∀ (v0_mod : Int) (v1_lists : (List (List Int))) (r : Bool), m_code_below n v0_mod v1_lists = some r → callN Try.prog HH XT n 36 [AV.int .i64 (v0_mod), AV.sl 1 (List.map encRow (v1_lists))] [] = some (AV.bool (r), []) := by
  cases n with
  | zero => intro v0_mod v1_lists r hm; exact absurd hm (by intro h; cases h)
  | succ n =>
    intro v0_mod v1_lists r hm
    rw [m_code_below] at hm
    refine callN_eq' Try.func36 (by rfl) rfl rfl (Nat.le_of_ble_eq_true rfl) ?_
    intro call hc
    conv => lhs; whnf
    refine bind_some2 hm ?_; clear hm; intro o9 ho9 hm
    refine rounds_sim (σ := Int) (τ := Unit) (ν := Bool) 0 (fun s1 a3 => stOf 30 [(0, AV.int .i64 (v0_mod)), (9, AV.sl 1 (List.map encRow (v1_lists))), (10, AV.int .i64 ((((v1_lists).length : Nat) : Int))), (11, AV.int .i64 (s1))]) (fun s1 a3 => []) (fun _ a27 => stOf 30 []) (fun _ a27 => []) (fun v => (AV.bool (v), [])) (fun k s => code_below_L0 n v0_mod v1_lists k s) (fun s => rfl) o9 ?_ n 0 (fun _ => 0) _ _ ho9 ?_ (by first | rfl | (simp only [ls, List.map_append, List.map_cons, List.map_nil, List.append_nil, List.length_set, length_copyL] <;> rfl)) (by first | rfl | (simp only [ls, List.map_append, List.map_cons, List.map_nil, List.append_nil, List.length_set, length_copyL] <;> rfl))
    · intro k2 ss a3 K4 cont5 hK6 hcont7 hm hr8
      obtain ⟨s1, rfl⟩ : ∃ x, x = ss := ⟨_, rfl⟩
      replace hm : code_below_L0 n v0_mod v1_lists (k2 + 1) s1 = some o9 := hm
      rw [code_below_L0] at hm
      conv => lhs; whnf
      refine bif_or2 hm ?_ ?_ <;> clear hm <;> intro hc10 hm
      · simp only [hc10, ls]
        conv => lhs; whnf
        refine bind_some2 hm ?_; clear hm; intro x11 hx11 hm
        refine bif_pos (by first | exact idx_in hx11 | exact idx_in' hx11) ?_
        simp only [idx_nth (f := encRow) hx11, ls]
        conv => lhs; whnf
        refine bind_some2 hm ?_; clear hm; intro o20 ho20 hm
        refine rounds_sim (σ := Int) (τ := Unit) (ν := Bool) 2 (fun s12 a14 => stOf 30 [(0, AV.int .i64 (v0_mod)), (9, AV.sl 1 (List.map encRow (v1_lists))), (10, AV.int .i64 ((((v1_lists).length : Nat) : Int))), (11, AV.int .i64 (s1)), (15, AV.sl 1 (List.map encI (x11))), (16, AV.int .i64 ((((x11).length : Nat) : Int))), (17, AV.int .i64 (s12))]) (fun s12 a14 => []) (fun _ a25 => stOf 30 [(0, AV.int .i64 (v0_mod)), (9, AV.sl 1 (List.map encRow (v1_lists))), (10, AV.int .i64 ((((v1_lists).length : Nat) : Int))), (11, AV.int .i64 (s1))]) (fun _ a25 => []) (fun v => (AV.bool (v), [])) (fun k s => code_below_L1 n v0_mod x11 k s) (fun s => rfl) o20 ?_ n 0 (fun _ => 0) _ _ ho20 ?_ (by first | rfl | (simp only [ls, List.map_append, List.map_cons, List.map_nil, List.append_nil, List.length_set, length_copyL] <;> rfl)) (by first | rfl | (simp only [ls, List.map_append, List.map_cons, List.map_nil, List.append_nil, List.length_set, length_copyL] <;> rfl))
        · intro k13 ss a14 K15 cont16 hK17 hcont18 hm hr19
          obtain ⟨s12, rfl⟩ : ∃ x, x = ss := ⟨_, rfl⟩
          replace hm : code_below_L1 n v0_mod x11 (k13 + 1) s12 = some o20 := hm
          rw [code_below_L1] at hm
          conv => lhs; whnf
          refine bif_or2 hm ?_ ?_ <;> clear hm <;> intro hc21 hm
          · simp only [hc21, ls]
            conv => lhs; whnf
            refine bind_some2 hm ?_; clear hm; intro x22 hx22 hm
            refine bif_pos (by first | exact idx_in hx22 | exact idx_in' hx22) ?_
            simp only [idx_nth (f := encI) hx22, ls]
            conv => lhs; whnf
            refine bif_or2 hm ?_ ?_ <;> clear hm <;> intro hc23 hm
            · simp only [hc23, ls]
              conv => lhs; whnf
              have hq := Option.some.inj hm; clear hm; subst hq
              refine (hK17 _ _).trans ?_
              conv => lhs; whnf
              refine (hK6 _ _).trans ?_
              refine Eq.trans ?_ (Eq.symm (show _ = some _ from hr19))
              conv => lhs; whnf
              try simp only [ls]
              exact fq (y := some (AV.bool (false), []))
            · simp only [hc23, ls]
              conv => lhs; whnf
              refine bif_or2 hm ?_ ?_ <;> clear hm <;> intro hc24 hm
              · simp only [hc24, ls]
                conv => lhs; whnf
                have hq := Option.some.inj hm; clear hm; subst hq
                refine (hK17 _ _).trans ?_
                conv => lhs; whnf
                refine (hK6 _ _).trans ?_
                refine Eq.trans ?_ (Eq.symm (show _ = some _ from hr19))
                conv => lhs; whnf
                try simp only [ls]
                exact fq (y := some (AV.bool (false), []))
              · simp only [hc24, ls]
                conv => lhs; whnf
                exact cq (hcont18 (IntKind.i64.wrap (s12 + 1)) (fun _ => 0) hm)
          · simp only [hc21, ls]
            conv => lhs; whnf
            have hq := Option.some.inj hm; clear hm; subst hq
            exact kq (hr19 (fun _ => 0))
        · cases o20 with
          | ret v =>
            have hq := Option.some.inj hm; clear hm; subst hq
            exact hr8
          | out t =>
            intro a25
            dsimp only at hm
            conv => lhs; whnf
            exact cq (hcont7 (IntKind.i64.wrap (s1 + 1)) (fun _ => 0) hm)
      · simp only [hc10, ls]
        conv => lhs; whnf
        have hq := Option.some.inj hm; clear hm; subst hq
        exact kq (hr8 (fun _ => 0))
    · cases o9 with
      | ret v =>
        have hq := Option.some.inj hm; clear hm; subst hq
        rfl
      | out t =>
        intro a27
        dsimp only at hm
        conv => lhs; whnf
        have hq := Option.some.inj hm; clear hm; subst hq
        try simp only [ls]
        exact fq (y := some (AV.bool (true), []))

set_option maxHeartbeats 4000000 in
theorem ok_code_truth (n : Nat) : ∀ (v0_is : Bool) (r : Int), m_code_truth n v0_is = some r → callN Try.prog HH XT n 50 [AV.bool (v0_is)] [] = some (AV.int .i64 (r), []) := by
  cases n with
  | zero => intro v0_is r hm; exact absurd hm (by intro h; cases h)
  | succ n =>
    intro v0_is r hm
    rw [m_code_truth] at hm
    refine callN_eq' Try.func50 (by rfl) rfl rfl (Nat.le_of_ble_eq_true rfl) ?_
    intro call hc
    conv => lhs; whnf
    refine bif_or2 hm ?_ ?_ <;> clear hm <;> intro hc1 hm
    · simp only [hc1, ls]
      conv => lhs; whnf
      have hq := Option.some.inj hm; clear hm; subst hq
      try simp only [ls]
      exact fq (y := some (AV.int .i64 (1), []))
    · simp only [hc1, ls]
      conv => lhs; whnf
      have hq := Option.some.inj hm; clear hm; subst hq
      try simp only [ls]
      exact fq (y := some (AV.int .i64 (0), []))

set_option maxHeartbeats 4000000 in
theorem ok_code_of_1 (n : Nat) : ∀ (v0_ : Int) (v1_b : Int) (v2_ : Int) (r : Int), m_code_of_1 n v0_ v1_b v2_ = some r → callN Try.prog HH XT n 49 [AV.int .i64 (v0_), AV.int .i64 (v1_b), AV.int .i64 (v2_)] [] = some (AV.int .i64 (r), []) := by
  cases n with
  | zero => intro v0_ v1_b v2_ r hm; exact absurd hm (by intro h; cases h)
  | succ n =>
    intro v0_ v1_b v2_ r hm
    rw [m_code_of_1] at hm
    refine callN_eq' Try.func49 (by rfl) rfl rfl (Nat.le_of_ble_eq_true rfl) ?_
    intro call hc
    conv => lhs; whnf
    refine bind_some2 hm ?_; clear hm; intro y1 hy1 hm
    have hk2 : call false 50 [AV.bool ((v1_b == 0))] [] = some (AV.int .i64 (y1), []) := (hc _ _ _).trans (ok_code_truth n (v1_b == 0) y1 hy1)
    try simp only [List.drop_zero, ls]
    first | simp only [hk2] | rewrite [hk2]
    try simp only [ls]
    conv => lhs; whnf
    have hq := Option.some.inj hm; clear hm; subst hq
    try simp only [ls]
    exact fq (y := some (AV.int .i64 (y1), []))

set_option maxHeartbeats 4000000 in
theorem ok_code_of_10 (n : Nat) : ∀ (v0_a : Int) (v1_b : Int) (v2_ : Int) (r : Int), m_code_of_10 n v0_a v1_b v2_ = some r → callN Try.prog HH XT n 59 [AV.int .i64 (v0_a), AV.int .i64 (v1_b), AV.int .i64 (v2_)] [] = some (AV.int .i64 (r), []) := by
  cases n with
  | zero => intro v0_a v1_b v2_ r hm; exact absurd hm (by intro h; cases h)
  | succ n =>
    intro v0_a v1_b v2_ r hm
    rw [m_code_of_10] at hm
    refine callN_eq' Try.func59 (by rfl) rfl rfl (Nat.le_of_ble_eq_true rfl) ?_
    intro call hc
    conv => lhs; whnf
    refine bind_some2 hm ?_; clear hm; intro y1 hy1 hm
    have hk2 : call false 50 [AV.bool (((IntKind.i64.wrap (v0_a + v1_b)) != 0))] [] = some (AV.int .i64 (y1), []) := (hc _ _ _).trans (ok_code_truth n ((IntKind.i64.wrap (v0_a + v1_b)) != 0) y1 hy1)
    try simp only [List.drop_zero, ls]
    first | simp only [hk2] | rewrite [hk2]
    try simp only [ls]
    conv => lhs; whnf
    have hq := Option.some.inj hm; clear hm; subst hq
    try simp only [ls]
    exact fq (y := some (AV.int .i64 (y1), []))

set_option maxHeartbeats 4000000 in
theorem ok_code_of_2 (n : Nat) : ∀ (v0_a : Int) (v1_b : Int) (v2_mod : Int) (r : Int), m_code_of_2 n v0_a v1_b v2_mod = some r → callN Try.prog HH XT n 51 [AV.int .i64 (v0_a), AV.int .i64 (v1_b), AV.int .i64 (v2_mod)] [] = some (AV.int .i64 (r), []) := by
  cases n with
  | zero => intro v0_a v1_b v2_mod r hm; exact absurd hm (by intro h; cases h)
  | succ n =>
    intro v0_a v1_b v2_mod r hm
    rw [m_code_of_2] at hm
    refine callN_eq' Try.func51 (by rfl) rfl rfl (Nat.le_of_ble_eq_true rfl) ?_
    intro call hc
    conv => lhs; whnf
    refine bif_or2 hm ?_ ?_ <;> clear hm <;> intro hc1 hm
    · cases hm
    · simp only [hc1, ls]
      conv => lhs; whnf
      have hq := Option.some.inj hm; clear hm; subst hq
      try simp only [ls]
      exact fq (y := some (AV.int .i64 ((Int.tmod (IntKind.i64.wrap (v0_a + v1_b)) v2_mod)), []))

set_option maxHeartbeats 4000000 in
theorem ok_code_of_3 (n : Nat) : ∀ (v0_a : Int) (v1_b : Int) (v2_mod : Int) (r : Int), m_code_of_3 n v0_a v1_b v2_mod = some r → callN Try.prog HH XT n 52 [AV.int .i64 (v0_a), AV.int .i64 (v1_b), AV.int .i64 (v2_mod)] [] = some (AV.int .i64 (r), []) := by
  cases n with
  | zero => intro v0_a v1_b v2_mod r hm; exact absurd hm (by intro h; cases h)
  | succ n =>
    intro v0_a v1_b v2_mod r hm
    rw [m_code_of_3] at hm
    refine callN_eq' Try.func52 (by rfl) rfl rfl (Nat.le_of_ble_eq_true rfl) ?_
    intro call hc
    conv => lhs; whnf
    refine bif_or2 hm ?_ ?_ <;> clear hm <;> intro hc1 hm
    · cases hm
    · simp only [hc1, ls]
      conv => lhs; whnf
      have hq := Option.some.inj hm; clear hm; subst hq
      try simp only [ls]
      exact fq (y := some (AV.int .i64 ((Int.tmod (IntKind.i64.wrap ((IntKind.i64.wrap (v0_a + v2_mod)) - v1_b)) v2_mod)), []))

set_option maxHeartbeats 4000000 in
theorem ok_code_of_4 (n : Nat) : ∀ (v0_a : Int) (v1_b : Int) (v2_mod : Int) (r : Int), m_code_of_4 n v0_a v1_b v2_mod = some r → callN Try.prog HH XT n 53 [AV.int .i64 (v0_a), AV.int .i64 (v1_b), AV.int .i64 (v2_mod)] [] = some (AV.int .i64 (r), []) := by
  cases n with
  | zero => intro v0_a v1_b v2_mod r hm; exact absurd hm (by intro h; cases h)
  | succ n =>
    intro v0_a v1_b v2_mod r hm
    rw [m_code_of_4] at hm
    refine callN_eq' Try.func53 (by rfl) rfl rfl (Nat.le_of_ble_eq_true rfl) ?_
    intro call hc
    conv => lhs; whnf
    refine bif_or2 hm ?_ ?_ <;> clear hm <;> intro hc1 hm
    · cases hm
    · simp only [hc1, ls]
      conv => lhs; whnf
      have hq := Option.some.inj hm; clear hm; subst hq
      try simp only [ls]
      exact fq (y := some (AV.int .i64 ((Int.tmod (IntKind.i64.wrap (v0_a * v1_b)) v2_mod)), []))

set_option maxHeartbeats 4000000 in
theorem ok_code_of_5 (n : Nat) : ∀ (v0_a : Int) (v1_b : Int) (v2_ : Int) (r : Int), m_code_of_5 n v0_a v1_b v2_ = some r → callN Try.prog HH XT n 54 [AV.int .i64 (v0_a), AV.int .i64 (v1_b), AV.int .i64 (v2_)] [] = some (AV.int .i64 (r), []) := by
  cases n with
  | zero => intro v0_a v1_b v2_ r hm; exact absurd hm (by intro h; cases h)
  | succ n =>
    intro v0_a v1_b v2_ r hm
    rw [m_code_of_5] at hm
    refine callN_eq' Try.func54 (by rfl) rfl rfl (Nat.le_of_ble_eq_true rfl) ?_
    intro call hc
    conv => lhs; whnf
    refine bind_some2 hm ?_; clear hm; intro y1 hy1 hm
    have hk2 : call false 50 [AV.bool ((v0_a == v1_b))] [] = some (AV.int .i64 (y1), []) := (hc _ _ _).trans (ok_code_truth n (v0_a == v1_b) y1 hy1)
    try simp only [List.drop_zero, ls]
    first | simp only [hk2] | rewrite [hk2]
    try simp only [ls]
    conv => lhs; whnf
    have hq := Option.some.inj hm; clear hm; subst hq
    try simp only [ls]
    exact fq (y := some (AV.int .i64 (y1), []))

set_option maxHeartbeats 4000000 in
theorem ok_code_of_6 (n : Nat) : ∀ (v0_a : Int) (v1_b : Int) (v2_ : Int) (r : Int), m_code_of_6 n v0_a v1_b v2_ = some r → callN Try.prog HH XT n 55 [AV.int .i64 (v0_a), AV.int .i64 (v1_b), AV.int .i64 (v2_)] [] = some (AV.int .i64 (r), []) := by
  cases n with
  | zero => intro v0_a v1_b v2_ r hm; exact absurd hm (by intro h; cases h)
  | succ n =>
    intro v0_a v1_b v2_ r hm
    rw [m_code_of_6] at hm
    refine callN_eq' Try.func55 (by rfl) rfl rfl (Nat.le_of_ble_eq_true rfl) ?_
    intro call hc
    conv => lhs; whnf
    refine bind_some2 hm ?_; clear hm; intro y1 hy1 hm
    have hk2 : call false 50 [AV.bool ((v0_a != v1_b))] [] = some (AV.int .i64 (y1), []) := (hc _ _ _).trans (ok_code_truth n (v0_a != v1_b) y1 hy1)
    try simp only [List.drop_zero, ls]
    first | simp only [hk2] | rewrite [hk2]
    try simp only [ls]
    conv => lhs; whnf
    have hq := Option.some.inj hm; clear hm; subst hq
    try simp only [ls]
    exact fq (y := some (AV.int .i64 (y1), []))

set_option maxHeartbeats 4000000 in
theorem ok_code_of_7 (n : Nat) : ∀ (v0_a : Int) (v1_b : Int) (v2_ : Int) (r : Int), m_code_of_7 n v0_a v1_b v2_ = some r → callN Try.prog HH XT n 56 [AV.int .i64 (v0_a), AV.int .i64 (v1_b), AV.int .i64 (v2_)] [] = some (AV.int .i64 (r), []) := by
  cases n with
  | zero => intro v0_a v1_b v2_ r hm; exact absurd hm (by intro h; cases h)
  | succ n =>
    intro v0_a v1_b v2_ r hm
    rw [m_code_of_7] at hm
    refine callN_eq' Try.func56 (by rfl) rfl rfl (Nat.le_of_ble_eq_true rfl) ?_
    intro call hc
    conv => lhs; whnf
    refine bind_some2 hm ?_; clear hm; intro y1 hy1 hm
    have hk2 : call false 50 [AV.bool (decide (v0_a < v1_b))] [] = some (AV.int .i64 (y1), []) := (hc _ _ _).trans (ok_code_truth n (decide (v0_a < v1_b)) y1 hy1)
    try simp only [List.drop_zero, ls]
    first | simp only [hk2] | rewrite [hk2]
    try simp only [ls]
    conv => lhs; whnf
    have hq := Option.some.inj hm; clear hm; subst hq
    try simp only [ls]
    exact fq (y := some (AV.int .i64 (y1), []))

set_option maxHeartbeats 4000000 in
theorem ok_code_of_8 (n : Nat) : ∀ (v0_a : Int) (v1_b : Int) (v2_ : Int) (r : Int), m_code_of_8 n v0_a v1_b v2_ = some r → callN Try.prog HH XT n 57 [AV.int .i64 (v0_a), AV.int .i64 (v1_b), AV.int .i64 (v2_)] [] = some (AV.int .i64 (r), []) := by
  cases n with
  | zero => intro v0_a v1_b v2_ r hm; exact absurd hm (by intro h; cases h)
  | succ n =>
    intro v0_a v1_b v2_ r hm
    rw [m_code_of_8] at hm
    refine callN_eq' Try.func57 (by rfl) rfl rfl (Nat.le_of_ble_eq_true rfl) ?_
    intro call hc
    conv => lhs; whnf
    refine bind_some2 hm ?_; clear hm; intro y1 hy1 hm
    have hk2 : call false 50 [AV.bool (decide (v0_a ≤ v1_b))] [] = some (AV.int .i64 (y1), []) := (hc _ _ _).trans (ok_code_truth n (decide (v0_a ≤ v1_b)) y1 hy1)
    try simp only [List.drop_zero, ls]
    first | simp only [hk2] | rewrite [hk2]
    try simp only [ls]
    conv => lhs; whnf
    have hq := Option.some.inj hm; clear hm; subst hq
    try simp only [ls]
    exact fq (y := some (AV.int .i64 (y1), []))

set_option maxHeartbeats 4000000 in
theorem ok_code_of_9 (n : Nat) : ∀ (v0_a : Int) (v1_b : Int) (v2_ : Int) (r : Int), m_code_of_9 n v0_a v1_b v2_ = some r → callN Try.prog HH XT n 58 [AV.int .i64 (v0_a), AV.int .i64 (v1_b), AV.int .i64 (v2_)] [] = some (AV.int .i64 (r), []) := by
  cases n with
  | zero => intro v0_a v1_b v2_ r hm; exact absurd hm (by intro h; cases h)
  | succ n =>
    intro v0_a v1_b v2_ r hm
    rw [m_code_of_9] at hm
    refine callN_eq' Try.func58 (by rfl) rfl rfl (Nat.le_of_ble_eq_true rfl) ?_
    intro call hc
    conv => lhs; whnf
    refine bind_some2 hm ?_; clear hm; intro y1 hy1 hm
    have hk2 : call false 50 [AV.bool (((IntKind.i64.wrap (v0_a * v1_b)) != 0))] [] = some (AV.int .i64 (y1), []) := (hc _ _ _).trans (ok_code_truth n ((IntKind.i64.wrap (v0_a * v1_b)) != 0) y1 hy1)
    try simp only [List.drop_zero, ls]
    first | simp only [hk2] | rewrite [hk2]
    try simp only [ls]
    conv => lhs; whnf
    have hq := Option.some.inj hm; clear hm; subst hq
    try simp only [ls]
    exact fq (y := some (AV.int .i64 (y1), []))
end Go.Proofs.Ytmnnkeejgkhgpaa
end

section
namespace Go.Proofs.Ytmnnkeejgkhgpaa
set_option linter.unusedVariables false
set_option linter.unusedSimpArgs false
set_option maxRecDepth 100000

set_option maxHeartbeats 4000000 in
theorem ok_code_Value (n : Nat) : ∀ (v0_l : (List OpS)) (v1_mod : Int) (v2_own : (List Int)) (v3_all : (List (List Int))) (v4_mem : (List Int)) (r : (Int × Bool)), m_code_Value n v0_l v1_mod v2_own v3_all v4_mem = some r → callN Try.prog HH XT n 17 [AV.sl 3 (List.map encOp (v0_l)), AV.int .i64 (v1_mod), AV.sl 1 (List.map encI (v2_own)), AV.sl 1 (List.map encRow (v3_all)), AV.sl 1 (List.map encI (v4_mem))] [] = some (AV.tup [AV.int .i64 ((r).1), AV.bool ((r).2)], []) := by
  cases n with
  | zero => intro v0_l v1_mod v2_own v3_all v4_mem r hm; exact absurd hm (by intro h; cases h)
  | succ n =>
    intro v0_l v1_mod v2_own v3_all v4_mem r hm
    rw [m_code_Value] at hm
    refine callN_eq' Try.func17 (by rfl) rfl rfl (Nat.le_of_ble_eq_true rfl) ?_
    intro call hc
    conv => lhs; whnf
    refine bif_or2 hm ?_ ?_ <;> clear hm <;> intro hc1 hm
    · simp only [hc1, ls]
      conv => lhs; whnf
      have hq := Option.some.inj hm; clear hm; subst hq
      try simp only [ls]
      exact fq (y := some (AV.tup [AV.int .i64 (0), AV.bool (false)], []))
    · simp only [hc1, ls]
      conv => lhs; whnf
      refine bif_or2 hm ?_ ?_ <;> clear hm <;> intro hc2 hm
      · simp only [hc2, ls]
        conv => lhs; whnf
        have hq := Option.some.inj hm; clear hm; subst hq
        try simp only [ls]
        exact fq (y := some (AV.tup [AV.int .i64 (0), AV.bool (false)], []))
      · simp only [hc2, ls]
        conv => lhs; whnf
        refine bind_some2 hm ?_; clear hm; intro y3 hy3 hm
        have hk4 : call false 36 [AV.int .i64 (v1_mod), AV.sl 1 [[AV.sl 1 (List.map encI (v2_own))], [AV.sl 1 (List.map encI (v4_mem))]]] [] = some (AV.bool (y3), []) := (hc _ _ _).trans (ok_code_below n v1_mod ([v2_own, v4_mem] : List (List Int)) y3 hy3)
        try simp only [List.drop_zero, ls]
        first | simp only [hk4] | rewrite [hk4]
        try simp only [ls]
        conv => lhs; whnf
        refine bif_or2 hm ?_ ?_ <;> clear hm <;> intro hc5 hm
        · simp only [hc5, ls]
          conv => lhs; whnf
          refine bind_some2 hm ?_; clear hm; intro y6 hy6 hm
          have hk7 : call false 36 [AV.int .i64 (v1_mod), AV.sl 1 (List.map encRow (v3_all))] [] = some (AV.bool (y6), []) := (hc _ _ _).trans (ok_code_below n v1_mod v3_all y6 hy6)
          try simp only [List.drop_zero, ls]
          first | simp only [hk7] | rewrite [hk7]
          try simp only [ls]
          conv => lhs; whnf
          refine bif_or2 hm ?_ ?_ <;> clear hm <;> intro hc8 hm
          · simp only [hc8, ls]
            conv => lhs; whnf
            refine bind_some2 hm ?_; clear hm; intro o18 ho18 hm
            refine rounds_sim (σ := (Int × (List Int))) (τ := (List Int)) (ν := (Int × Bool)) 0 (fun (s9, s10) a12 => stOf 150 [(0, AV.sl 3 (List.map encOp (v0_l))), (1, AV.int .i64 (v1_mod)), (2, AV.sl 1 (List.map encI (v2_own))), (3, AV.sl 1 (List.map encRow (v3_all))), (4, AV.sl 1 (List.map encI (v4_mem))), (12, AV.row 0 (List.length (s10))), (42, AV.sl 1 (List.map encRow (v3_all))), (43, AV.int .i64 ((((v3_all).length : Nat) : Int))), (44, AV.int .i64 (s9))]) (fun (s9, s10) a12 => [Ob.row 3 1 (List.map encI (s10))]) (fun x25 a24 => stOf 150 [(0, AV.sl 3 (List.map encOp (v0_l))), (1, AV.int .i64 (v1_mod)), (2, AV.sl 1 (List.map encI (v2_own))), (3, AV.sl 1 (List.map encRow (v3_all))), (4, AV.sl 1 (List.map encI (v4_mem))), (12, AV.row 0 (List.length (x25)))]) (fun x25 a24 => [Ob.row 3 1 (List.map encI (x25))]) (fun v => (AV.tup [AV.int .i64 ((v).1), AV.bool ((v).2)], [])) (fun k s => code_Value_L0 n v3_all k ((s).1) ((s).2)) (fun s => rfl) o18 ?_ n (0, ([] : List Int)) (fun _ => 0) _ _ ho18 ?_ (by first | rfl | (simp only [ls, List.map_append, List.map_cons, List.map_nil, List.append_nil, List.length_set, length_copyL] <;> rfl)) (by first | rfl | (simp only [ls, List.map_append, List.map_cons, List.map_nil, List.append_nil, List.length_set, length_copyL] <;> rfl))
            · intro k11 ss a12 K13 cont14 hK15 hcont16 hm hr17
              obtain ⟨s9, s10⟩ := ss
              replace hm : code_Value_L0 n v3_all (k11 + 1) s9 s10 = some o18 := hm
              rw [code_Value_L0] at hm
              conv => lhs; whnf
              refine bif_or2 hm ?_ ?_ <;> clear hm <;> intro hc19 hm
              · simp only [hc19, ls]
                conv => lhs; whnf
                refine bind_some2 hm ?_; clear hm; intro x20 hx20 hm
                refine bif_pos (by first | exact idx_in hx20 | exact idx_in' hx20) ?_
                simp only [idx_nth (f := encRow) hx20, ls]
                conv => lhs; whnf
                refine chk_some2 hm ?_; clear hm; intro hc23 hm
                refine bif_pos (app_row hc23 (by first | rfl | simp only [List.length_map]) (by first | rfl | simp only [List.length_map]) (by first | rfl | simp only [List.length_map, take_map_len]) (by kernel_rfl)) ?_
                try simp only [lt]
                have hp21 : (List.map encI (s10) : List (List AV)) ++ [[AV.int .i64 ((((x20).length : Nat) : Int))]] = List.map encI (s10 ++ ([(((x20).length : Nat) : Int)] : List Int)) := by first | rfl | (rw [List.map_append]; rfl) | (rw [List.map_append]; done) | (simp only [List.map_append, List.map_cons, List.map_nil, List.nil_append, encI] <;> rfl)
                have hl22 : List.length (List.map encI (s10) : List (List AV)) + List.length ([[AV.int .i64 ((((x20).length : Nat) : Int))]] : List (List AV)) = List.length (s10 ++ ([(((x20).length : Nat) : Int)] : List Int)) := by simp only [List.length_map, List.length_append] <;> rfl
                have hl22_b : List.length s10 + List.length ([[AV.int .i64 ((((x20).length : Nat) : Int))]] : List (List AV)) = List.length (s10 ++ ([(((x20).length : Nat) : Int)] : List Int)) := by simp only [List.length_map, List.length_append] <;> rfl
                have hl22_c : List.length s10 + List.length ([(((x20).length : Nat) : Int)] : List Int) = List.length (s10 ++ ([(((x20).length : Nat) : Int)] : List Int)) := by simp only [List.length_map, List.length_append] <;> rfl
                first | simp only [hp21, hl22] | (simp only [List.length_map, take_map_len]; simp only [hp21, hl22_b, hl22_c])
                try simp only [ls]
                conv => lhs; whnf
                exact cq (hcont16 (IntKind.i64.wrap (s9 + 1), (s10 ++ ([(((x20).length : Nat) : Int)] : List Int))) (fun _ => 0) hm)
              · simp only [hc19, ls]
                conv => lhs; whnf
                have hq := Option.some.inj hm; clear hm; subst hq
                exact kq (hr17 (fun _ => 0))
            · cases o18 with
              | ret v =>
                have hq := Option.some.inj hm; clear hm; subst hq
                rfl
              | out t =>
                obtain ⟨x25, rfl⟩ : ∃ x, x = t := ⟨_, rfl⟩
                intro a24
                dsimp only at hm
                conv => lhs; whnf
                refine bind_some2 hm ?_; clear hm; intro y26 hy26 hm
                have hk27 : call false 21 [AV.sl 3 (List.map encOp (v0_l)), AV.sl 1 (List.map encI (x25)), AV.int .i64 ((((v2_own).length : Nat) : Int)), AV.int .i64 ((((v4_mem).length : Nat) : Int))] [] = some (AV.bool (y26), []) := (hc _ _ _).trans (ok_code_Right n v0_l x25 (((v2_own).length : Nat) : Int) (((v4_mem).length : Nat) : Int) y26 hy26)
                try simp only [List.drop_zero, ls]
                first | simp only [hk27] | rewrite [hk27]
                try simp only [ls]
                conv => lhs; whnf
                refine bif_or2 hm ?_ ?_ <;> clear hm <;> intro hc28 hm
                · simp only [hc28, ls]
                  conv => lhs; whnf
                  refine bind_some2 hm ?_; clear hm; intro o38 ho38 hm
                  refine rounds_sim (σ := (Int × (List Int))) (τ := (List Int)) (ν := (Int × Bool)) 2 (fun (s29, s30) a32 => stOf 150 [(1, AV.int .i64 (v1_mod)), (2, AV.sl 1 (List.map encI (v2_own))), (3, AV.sl 1 (List.map encRow (v3_all))), (4, AV.sl 1 (List.map encI (v4_mem))), (15, AV.stk 1 (a32 1) (List.length (s30))), (62, AV.sl 3 (List.map encOp (v0_l))), (63, AV.int .i64 ((((v0_l).length : Nat) : Int))), (64, AV.int .i64 (s29))]) (fun (s29, s30) a32 => [Ob.row 3 1 (List.map encI (x25)), Ob.stk (a32 1) 3 1 (List.map encI (s30))]) (fun x158 a157 => stOf 150 [(15, AV.stk 1 (a157 1) (List.length (x158)))]) (fun x158 a157 => [Ob.row 3 1 (List.map encI (x25)), Ob.stk (a157 1) 3 1 (List.map encI (x158))]) (fun v => (AV.tup [AV.int .i64 ((v).1), AV.bool ((v).2)], [])) (fun k s => code_Value_L1 n v0_l v1_mod v2_own v3_all v4_mem k ((s).1) ((s).2)) (fun s => rfl) o38 ?_ n (0, ([] : List Int)) (fun j => (bif Nat.beq j 1 then 0 else 0)) _ _ ho38 ?_ (by first | rfl | (simp only [ls, List.map_append, List.map_cons, List.map_nil, List.append_nil, List.length_set, length_copyL] <;> rfl)) (by first | rfl | (simp only [ls, List.map_append, List.map_cons, List.map_nil, List.append_nil, List.length_set, length_copyL] <;> rfl))
                  · intro k31 ss a32 K33 cont34 hK35 hcont36 hm hr37
                    obtain ⟨s29, s30⟩ := ss
                    replace hm : code_Value_L1 n v0_l v1_mod v2_own v3_all v4_mem (k31 + 1) s29 s30 = some o38 := hm
                    rw [code_Value_L1] at hm
                    conv => lhs; whnf
                    refine bif_or2 hm ?_ ?_ <;> clear hm <;> intro hc39 hm
                    · simp only [hc39, ls]
                      conv => lhs; whnf
                      refine bind_some2 hm ?_; clear hm; intro x40 hx40 hm
                      refine bif_pos (by first | exact idx_in hx40 | exact idx_in' hx40) ?_
                      simp only [idx_nth (f := encOp) hx40, ls]
                      conv => lhs; whnf
                      refine bif_or2 hm ?_ ?_ <;> clear hm <;> intro hc41 hm
                      · simp only [hc41, ls]
                        conv => lhs; whnf
                        refine bif_or2 hm ?_ ?_ <;> clear hm <;> intro hc42 hm
                        · cases hm
                        · simp only [hc42, ls]
                          conv => lhs; whnf
                          refine chk_some2 hm ?_; clear hm; intro hc45 hm
                          try simp only [dec_self]
                          conv => lhs; whnf
                          refine bif_pos (app_row hc45 (by first | rfl | simp only [List.length_map]) (by first | rfl | simp only [List.length_map]) (by first | rfl | simp only [List.length_map, take_map_len]) (by kernel_rfl)) ?_
                          try simp only [lt]
                          have hp43 : (List.map encI (s30) : List (List AV)) ++ [[AV.int .i64 ((Int.tmod x40.n v1_mod))]] = List.map encI (s30 ++ ([(Int.tmod x40.n v1_mod)] : List Int)) := by first | rfl | (rw [List.map_append]; rfl) | (rw [List.map_append]; done) | (simp only [List.map_append, List.map_cons, List.map_nil, List.nil_append, encI] <;> rfl)
                          have hl44 : List.length (List.map encI (s30) : List (List AV)) + List.length ([[AV.int .i64 ((Int.tmod x40.n v1_mod))]] : List (List AV)) = List.length (s30 ++ ([(Int.tmod x40.n v1_mod)] : List Int)) := by simp only [List.length_map, List.length_append] <;> rfl
                          have hl44_b : List.length s30 + List.length ([[AV.int .i64 ((Int.tmod x40.n v1_mod))]] : List (List AV)) = List.length (s30 ++ ([(Int.tmod x40.n v1_mod)] : List Int)) := by simp only [List.length_map, List.length_append] <;> rfl
                          have hl44_c : List.length s30 + List.length ([(Int.tmod x40.n v1_mod)] : List Int) = List.length (s30 ++ ([(Int.tmod x40.n v1_mod)] : List Int)) := by simp only [List.length_map, List.length_append] <;> rfl
                          first | simp only [hp43, hl44] | (simp only [List.length_map, take_map_len]; simp only [hp43, hl44_b, hl44_c])
                          try simp only [ls]
                          conv => lhs; whnf
                          exact cq (hcont36 (IntKind.i64.wrap (s29 + 1), (s30 ++ ([(Int.tmod x40.n v1_mod)] : List Int))) (fun j => (bif Nat.beq j 1 then ((a32 1) + 1) else 0)) hm)
                      · simp only [hc41, ls]
                        conv => lhs; whnf
                        refine bif_or2 hm ?_ ?_ <;> clear hm <;> intro hc46 hm
                        · simp only [hc46, ls]
                          conv => lhs; whnf
                          refine bind_some2 hm ?_; clear hm; intro x47 hx47 hm
                          refine bif_pos (by first | exact idx_in hx47 | exact idx_in' hx47) ?_
                          simp only [idx_nth (f := encI) hx47, ls]
                          conv => lhs; whnf
                          refine chk_some2 hm ?_; clear hm; intro hc50 hm
                          try simp only [dec_self]
                          conv => lhs; whnf
                          refine bif_pos (app_row hc50 (by first | rfl | simp only [List.length_map]) (by first | rfl | simp only [List.length_map]) (by first | rfl | simp only [List.length_map, take_map_len]) (by kernel_rfl)) ?_
                          try simp only [lt]
                          have hp48 : (List.map encI (s30) : List (List AV)) ++ [[AV.int .i64 (x47)]] = List.map encI (s30 ++ ([x47] : List Int)) := by first | rfl | (rw [List.map_append]; rfl) | (rw [List.map_append]; done) | (simp only [List.map_append, List.map_cons, List.map_nil, List.nil_append, encI] <;> rfl)
                          have hl49 : List.length (List.map encI (s30) : List (List AV)) + List.length ([[AV.int .i64 (x47)]] : List (List AV)) = List.length (s30 ++ ([x47] : List Int)) := by simp only [List.length_map, List.length_append] <;> rfl
                          have hl49_b : List.length s30 + List.length ([[AV.int .i64 (x47)]] : List (List AV)) = List.length (s30 ++ ([x47] : List Int)) := by simp only [List.length_map, List.length_append] <;> rfl
                          have hl49_c : List.length s30 + List.length ([x47] : List Int) = List.length (s30 ++ ([x47] : List Int)) := by simp only [List.length_map, List.length_append] <;> rfl
                          first | simp only [hp48, hl49] | (simp only [List.length_map, take_map_len]; simp only [hp48, hl49_b, hl49_c])
                          try simp only [ls]
                          conv => lhs; whnf
                          exact cq (hcont36 (IntKind.i64.wrap (s29 + 1), (s30 ++ ([x47] : List Int))) (fun j => (bif Nat.beq j 1 then ((a32 1) + 1) else 0)) hm)
                        · simp only [hc46, ls]
                          conv => lhs; whnf
                          refine bif_or2 hm ?_ ?_ <;> clear hm <;> intro hc51 hm
                          · simp only [hc51, ls]
                            conv => lhs; whnf
                            refine bind_some2 hm ?_; clear hm; intro x52 hx52 hm
                            refine bif_pos (by first | exact idx_in hx52 | exact idx_in' hx52) ?_
                            simp only [idx_nth (f := encI) hx52, ls]
                            conv => lhs; whnf
                            refine chk_some2 hm ?_; clear hm; intro hc55 hm
                            try simp only [dec_self]
                            conv => lhs; whnf
                            refine bif_pos (app_row hc55 (by first | rfl | simp only [List.length_map]) (by first | rfl | simp only [List.length_map]) (by first | rfl | simp only [List.length_map, take_map_len]) (by kernel_rfl)) ?_
                            try simp only [lt]
                            have hp53 : (List.map encI (s30) : List (List AV)) ++ [[AV.int .i64 (x52)]] = List.map encI (s30 ++ ([x52] : List Int)) := by first | rfl | (rw [List.map_append]; rfl) | (rw [List.map_append]; done) | (simp only [List.map_append, List.map_cons, List.map_nil, List.nil_append, encI] <;> rfl)
                            have hl54 : List.length (List.map encI (s30) : List (List AV)) + List.length ([[AV.int .i64 (x52)]] : List (List AV)) = List.length (s30 ++ ([x52] : List Int)) := by simp only [List.length_map, List.length_append] <;> rfl
                            have hl54_b : List.length s30 + List.length ([[AV.int .i64 (x52)]] : List (List AV)) = List.length (s30 ++ ([x52] : List Int)) := by simp only [List.length_map, List.length_append] <;> rfl
                            have hl54_c : List.length s30 + List.length ([x52] : List Int) = List.length (s30 ++ ([x52] : List Int)) := by simp only [List.length_map, List.length_append] <;> rfl
                            first | simp only [hp53, hl54] | (simp only [List.length_map, take_map_len]; simp only [hp53, hl54_b, hl54_c])
                            try simp only [ls]
                            conv => lhs; whnf
                            exact cq (hcont36 (IntKind.i64.wrap (s29 + 1), (s30 ++ ([x52] : List Int))) (fun j => (bif Nat.beq j 1 then ((a32 1) + 1) else 0)) hm)
                          · simp only [hc51, ls]
                            conv => lhs; whnf
                            refine bif_or2 hm ?_ ?_ <;> clear hm <;> intro hc56 hm
                            · simp only [hc56, ls]
                              conv => lhs; whnf
                              refine bind_some2 hm ?_; clear hm; intro x57 hx57 hm
                              refine bif_pos (by first | exact idx_in hx57 | exact idx_in' hx57) ?_
                              simp only [idx_nth (f := encRow) hx57, ls]
                              conv => lhs; whnf
                              refine bind_some2 hm ?_; clear hm; intro x58 hx58 hm
                              refine bif_pos (by first | exact idx_in hx58 | exact idx_in' hx58) ?_
                              simp only [idx_nth (f := encI) hx58, ls]
                              conv => lhs; whnf
                              refine chk_some2 hm ?_; clear hm; intro hc61 hm
                              try simp only [dec_self]
                              conv => lhs; whnf
                              refine bif_pos (app_row hc61 (by first | rfl | simp only [List.length_map]) (by first | rfl | simp only [List.length_map]) (by first | rfl | simp only [List.length_map, take_map_len]) (by kernel_rfl)) ?_
                              try simp only [lt]
                              have hp59 : (List.map encI (s30) : List (List AV)) ++ [[AV.int .i64 (x58)]] = List.map encI (s30 ++ ([x58] : List Int)) := by first | rfl | (rw [List.map_append]; rfl) | (rw [List.map_append]; done) | (simp only [List.map_append, List.map_cons, List.map_nil, List.nil_append, encI] <;> rfl)
                              have hl60 : List.length (List.map encI (s30) : List (List AV)) + List.length ([[AV.int .i64 (x58)]] : List (List AV)) = List.length (s30 ++ ([x58] : List Int)) := by simp only [List.length_map, List.length_append] <;> rfl
                              have hl60_b : List.length s30 + List.length ([[AV.int .i64 (x58)]] : List (List AV)) = List.length (s30 ++ ([x58] : List Int)) := by simp only [List.length_map, List.length_append] <;> rfl
                              have hl60_c : List.length s30 + List.length ([x58] : List Int) = List.length (s30 ++ ([x58] : List Int)) := by simp only [List.length_map, List.length_append] <;> rfl
                              first | simp only [hp59, hl60] | (simp only [List.length_map, take_map_len]; simp only [hp59, hl60_b, hl60_c])
                              try simp only [ls]
                              conv => lhs; whnf
                              exact cq (hcont36 (IntKind.i64.wrap (s29 + 1), (s30 ++ ([x58] : List Int))) (fun j => (bif Nat.beq j 1 then ((a32 1) + 1) else 0)) hm)
                            · simp only [hc56, ls]
                              conv => lhs; whnf
                              refine bind_some2 hm ?_; clear hm; intro y62 hy62 hm
                              cases y62 with
                              | c0 y64 =>
                                cases hm
                              | c1 y65 =>
                                dsimp only at hm
                                have hk63 : call false 37 [AV.int .i64 (x40.op)] [] = some (AV.tup [AV.agg [AV.int .i64 ((y65).1), AV.func 59 [] []], AV.bool ((y65).2)], []) := (hc _ _ _).trans (ok_code_of n x40.op (.c1 y65) hy62)
                                try simp only [List.drop_zero, ls]
                                first | simp only [hk63] | rewrite [hk63]
                                try simp only [ls]
                                conv => lhs; whnf
                                refine bind_some2 hm ?_; clear hm; intro x77 hx77 hm
                                try simp only [dec_self]
                                conv => lhs; whnf
                                try simp only [ls]
                                refine bif_pos (by first | exact idx_in hx77 | exact idx_in' hx77 | exact own_in hx77 | exact own_in' hx77 | (have q := idx_in hx77; simp only [List.length_set] at q; exact q) | (have q := own_in' hx77; simp only [List.length_set, Nat.zero_add] at q ⊢; exact q)) ?_
                                conv => lhs; whnf
                                try simp only [idx_nth (f := encI) hx77, dec_self, ls]
                                conv => lhs; whnf
                                refine bind_some2 hm ?_; clear hm; intro x78 hx78 hm
                                try simp only [dec_self]
                                conv => lhs; whnf
                                try simp only [ls]
                                refine bif_pos (by first | exact idx_in hx78 | exact idx_in' hx78 | exact own_in hx78 | exact own_in' hx78 | (have q := idx_in hx78; simp only [List.length_set] at q; exact q) | (have q := own_in' hx78; simp only [List.length_set, Nat.zero_add] at q ⊢; exact q)) ?_
                                conv => lhs; whnf
                                try simp only [idx_nth (f := encI) hx78, dec_self, ls]
                                conv => lhs; whnf
                                refine bind_some2 hm ?_; clear hm; intro y79 hy79 hm
                                have hk80 : call false 59 [AV.int .i64 (x77), AV.int .i64 (x78), AV.int .i64 (v1_mod)] [] = some (AV.int .i64 (y79), []) := (hc _ _ _).trans (ok_code_of_10 n x77 x78 v1_mod y79 hy79)
                                try simp only [List.drop_zero, ls]
                                first | simp only [hk80] | rewrite [hk80]
                                try simp only [ls]
                                conv => lhs; whnf
                                refine bind_some2 hm ?_; clear hm; intro x81 hx81 hm
                                try simp only [dec_self]
                                conv => lhs; whnf
                                try simp only [ls]
                                refine bif_pos (by first | exact idx_in hx81 | exact idx_in' hx81 | exact own_in hx81 | exact own_in' hx81 | (have q := idx_in hx81; simp only [List.length_set] at q; exact q) | (have q := own_in' hx81; simp only [List.length_set, Nat.zero_add] at q ⊢; exact q)) ?_
                                conv => lhs; whnf
                                try simp only [idx_nth (f := encI) hx81, dec_self, ls]
                                conv => lhs; whnf
                                have hs82 : setNth (List.map encI s30) (IntKind.i64.wrap ((IntKind.i64.wrap ((IntKind.i64.wrap ((((s30).length : Nat) : Int) - 1)) + 1)) - ((y65).1))).toNat [AV.int .i64 (y79)] = List.map encI (List.set s30 (IntKind.i64.wrap ((IntKind.i64.wrap ((IntKind.i64.wrap ((((s30).length : Nat) : Int) - 1)) + 1)) - ((y65).1))).toNat y79) := by rw [setNth_eq, List.map_set]; rfl
                                have hs82_u : setNth (List.map encI s30) (IntKind.i64.wrap ((IntKind.i64.wrap ((IntKind.i64.wrap ((((s30).length : Nat) : Int) - 1)) + 1)) - ((y65).1))).toNat (updL (encI x81) 0 [AV.int .i64 (y79)]) = List.map encI (List.set s30 (IntKind.i64.wrap ((IntKind.i64.wrap ((IntKind.i64.wrap ((((s30).length : Nat) : Int) - 1)) + 1)) - ((y65).1))).toNat y79) := by rw [setNth_eq, List.map_set]; rfl
                                try simp only [idx_nth (f := encI) hx81, dec_self]
                                conv => lhs; whnf
                                try simp only [hs82, hs82_u, dec_self]
                                conv => lhs; whnf
                                refine chk_some2 hm ?_; clear hm; intro hc84 hm
                                try simp only [dec_self]
                                conv => lhs; whnf
                                try simp only [ls]
                                first | refine bif_pos hc84 ?_ | (refine bif_pos (by have q := hc84; simp only [List.length_set] at q; exact q) ?_)
                                have hs83 : List.take ((IntKind.i64.wrap ((IntKind.i64.wrap ((IntKind.i64.wrap ((IntKind.i64.wrap ((((s30).length : Nat) : Int) - 1)) + 1)) - ((y65).1))) + 1)).toNat) (List.map encI (List.set s30 (IntKind.i64.wrap ((IntKind.i64.wrap ((IntKind.i64.wrap ((((s30).length : Nat) : Int) - 1)) + 1)) - ((y65).1))).toNat y79)) = List.map encI (List.take ((IntKind.i64.wrap ((IntKind.i64.wrap ((IntKind.i64.wrap ((IntKind.i64.wrap ((((s30).length : Nat) : Int) - 1)) + 1)) - ((y65).1))) + 1)).toNat) (List.set s30 (IntKind.i64.wrap ((IntKind.i64.wrap ((IntKind.i64.wrap ((((s30).length : Nat) : Int) - 1)) + 1)) - ((y65).1))).toNat y79)) := by rw [List.map_take]
                                have hs83_l : List.length (List.take ((IntKind.i64.wrap ((IntKind.i64.wrap ((IntKind.i64.wrap ((IntKind.i64.wrap ((((s30).length : Nat) : Int) - 1)) + 1)) - ((y65).1))) + 1)).toNat) (List.set s30 (IntKind.i64.wrap ((IntKind.i64.wrap ((IntKind.i64.wrap ((((s30).length : Nat) : Int) - 1)) + 1)) - ((y65).1))).toNat y79)) = (IntKind.i64.wrap ((IntKind.i64.wrap ((IntKind.i64.wrap ((IntKind.i64.wrap ((((s30).length : Nat) : Int) - 1)) + 1)) - ((y65).1))) + 1)).toNat := by simp only [List.length_take]; exact Nat.min_eq_left (cut_le hc84)
                                conv => lhs; whnf
                                try simp only [dec_self, hs83]
                                conv => lhs; whnf
                                try simp only [hs83]
                                have hs83_s : ∀ q, AV.stk 1 q ((IntKind.i64.wrap ((IntKind.i64.wrap ((IntKind.i64.wrap ((IntKind.i64.wrap ((((s30).length : Nat) : Int) - 1)) + 1)) - ((y65).1))) + 1)).toNat) = AV.stk 1 q (List.length (List.take ((IntKind.i64.wrap ((IntKind.i64.wrap ((IntKind.i64.wrap ((IntKind.i64.wrap ((((s30).length : Nat) : Int) - 1)) + 1)) - ((y65).1))) + 1)).toNat) (List.set s30 (IntKind.i64.wrap ((IntKind.i64.wrap ((IntKind.i64.wrap ((((s30).length : Nat) : Int) - 1)) + 1)) - ((y65).1))).toNat y79))) := fun q => by rw [hs83_l]
                                try simp only [hs83_s]
                                conv => lhs; whnf
                                exact cq (hcont36 (IntKind.i64.wrap (s29 + 1), (List.take ((IntKind.i64.wrap ((IntKind.i64.wrap ((IntKind.i64.wrap ((IntKind.i64.wrap ((((s30).length : Nat) : Int) - 1)) + 1)) - ((y65).1))) + 1)).toNat) (List.set s30 (IntKind.i64.wrap ((IntKind.i64.wrap ((IntKind.i64.wrap ((((s30).length : Nat) : Int) - 1)) + 1)) - ((y65).1))).toNat y79))) (fun j => (bif Nat.beq j 1 then ((a32 1) + 1) else 0)) hm)
                              | c2 y66 =>
                                dsimp only at hm
                                have hk63 : call false 37 [AV.int .i64 (x40.op)] [] = some (AV.tup [AV.agg [AV.int .i64 ((y66).1), AV.func 58 [] []], AV.bool ((y66).2)], []) := (hc _ _ _).trans (ok_code_of n x40.op (.c2 y66) hy62)
                                try simp only [List.drop_zero, ls]
                                first | simp only [hk63] | rewrite [hk63]
                                try simp only [ls]
                                conv => lhs; whnf
                                refine bind_some2 hm ?_; clear hm; intro x85 hx85 hm
                                try simp only [dec_self]
                                conv => lhs; whnf
                                try simp only [ls]
                                refine bif_pos (by first | exact idx_in hx85 | exact idx_in' hx85 | exact own_in hx85 | exact own_in' hx85 | (have q := idx_in hx85; simp only [List.length_set] at q; exact q) | (have q := own_in' hx85; simp only [List.length_set, Nat.zero_add] at q ⊢; exact q)) ?_
                                conv => lhs; whnf
                                try simp only [idx_nth (f := encI) hx85, dec_self, ls]
                                conv => lhs; whnf
                                refine bind_some2 hm ?_; clear hm; intro x86 hx86 hm
                                try simp only [dec_self]
                                conv => lhs; whnf
                                try simp only [ls]
                                refine bif_pos (by first | exact idx_in hx86 | exact idx_in' hx86 | exact own_in hx86 | exact own_in' hx86 | (have q := idx_in hx86; simp only [List.length_set] at q; exact q) | (have q := own_in' hx86; simp only [List.length_set, Nat.zero_add] at q ⊢; exact q)) ?_
                                conv => lhs; whnf
                                try simp only [idx_nth (f := encI) hx86, dec_self, ls]
                                conv => lhs; whnf
                                refine bind_some2 hm ?_; clear hm; intro y87 hy87 hm
                                have hk88 : call false 58 [AV.int .i64 (x85), AV.int .i64 (x86), AV.int .i64 (v1_mod)] [] = some (AV.int .i64 (y87), []) := (hc _ _ _).trans (ok_code_of_9 n x85 x86 v1_mod y87 hy87)
                                try simp only [List.drop_zero, ls]
                                first | simp only [hk88] | rewrite [hk88]
                                try simp only [ls]
                                conv => lhs; whnf
                                refine bind_some2 hm ?_; clear hm; intro x89 hx89 hm
                                try simp only [dec_self]
                                conv => lhs; whnf
                                try simp only [ls]
                                refine bif_pos (by first | exact idx_in hx89 | exact idx_in' hx89 | exact own_in hx89 | exact own_in' hx89 | (have q := idx_in hx89; simp only [List.length_set] at q; exact q) | (have q := own_in' hx89; simp only [List.length_set, Nat.zero_add] at q ⊢; exact q)) ?_
                                conv => lhs; whnf
                                try simp only [idx_nth (f := encI) hx89, dec_self, ls]
                                conv => lhs; whnf
                                have hs90 : setNth (List.map encI s30) (IntKind.i64.wrap ((IntKind.i64.wrap ((IntKind.i64.wrap ((((s30).length : Nat) : Int) - 1)) + 1)) - ((y66).1))).toNat [AV.int .i64 (y87)] = List.map encI (List.set s30 (IntKind.i64.wrap ((IntKind.i64.wrap ((IntKind.i64.wrap ((((s30).length : Nat) : Int) - 1)) + 1)) - ((y66).1))).toNat y87) := by rw [setNth_eq, List.map_set]; rfl
                                have hs90_u : setNth (List.map encI s30) (IntKind.i64.wrap ((IntKind.i64.wrap ((IntKind.i64.wrap ((((s30).length : Nat) : Int) - 1)) + 1)) - ((y66).1))).toNat (updL (encI x89) 0 [AV.int .i64 (y87)]) = List.map encI (List.set s30 (IntKind.i64.wrap ((IntKind.i64.wrap ((IntKind.i64.wrap ((((s30).length : Nat) : Int) - 1)) + 1)) - ((y66).1))).toNat y87) := by rw [setNth_eq, List.map_set]; rfl
                                try simp only [idx_nth (f := encI) hx89, dec_self]
                                conv => lhs; whnf
                                try simp only [hs90, hs90_u, dec_self]
                                conv => lhs; whnf
                                refine chk_some2 hm ?_; clear hm; intro hc92 hm
                                try simp only [dec_self]
                                conv => lhs; whnf
                                try simp only [ls]
                                first | refine bif_pos hc92 ?_ | (refine bif_pos (by have q := hc92; simp only [List.length_set] at q; exact q) ?_)
                                have hs91 : List.take ((IntKind.i64.wrap ((IntKind.i64.wrap ((IntKind.i64.wrap ((IntKind.i64.wrap ((((s30).length : Nat) : Int) - 1)) + 1)) - ((y66).1))) + 1)).toNat) (List.map encI (List.set s30 (IntKind.i64.wrap ((IntKind.i64.wrap ((IntKind.i64.wrap ((((s30).length : Nat) : Int) - 1)) + 1)) - ((y66).1))).toNat y87)) = List.map encI (List.take ((IntKind.i64.wrap ((IntKind.i64.wrap ((IntKind.i64.wrap ((IntKind.i64.wrap ((((s30).length : Nat) : Int) - 1)) + 1)) - ((y66).1))) + 1)).toNat) (List.set s30 (IntKind.i64.wrap ((IntKind.i64.wrap ((IntKind.i64.wrap ((((s30).length : Nat) : Int) - 1)) + 1)) - ((y66).1))).toNat y87)) := by rw [List.map_take]
                                have hs91_l : List.length (List.take ((IntKind.i64.wrap ((IntKind.i64.wrap ((IntKind.i64.wrap ((IntKind.i64.wrap ((((s30).length : Nat) : Int) - 1)) + 1)) - ((y66).1))) + 1)).toNat) (List.set s30 (IntKind.i64.wrap ((IntKind.i64.wrap ((IntKind.i64.wrap ((((s30).length : Nat) : Int) - 1)) + 1)) - ((y66).1))).toNat y87)) = (IntKind.i64.wrap ((IntKind.i64.wrap ((IntKind.i64.wrap ((IntKind.i64.wrap ((((s30).length : Nat) : Int) - 1)) + 1)) - ((y66).1))) + 1)).toNat := by simp only [List.length_take]; exact Nat.min_eq_left (cut_le hc92)
                                conv => lhs; whnf
                                try simp only [dec_self, hs91]
                                conv => lhs; whnf
                                try simp only [hs91]
                                have hs91_s : ∀ q, AV.stk 1 q ((IntKind.i64.wrap ((IntKind.i64.wrap ((IntKind.i64.wrap ((IntKind.i64.wrap ((((s30).length : Nat) : Int) - 1)) + 1)) - ((y66).1))) + 1)).toNat) = AV.stk 1 q (List.length (List.take ((IntKind.i64.wrap ((IntKind.i64.wrap ((IntKind.i64.wrap ((IntKind.i64.wrap ((((s30).length : Nat) : Int) - 1)) + 1)) - ((y66).1))) + 1)).toNat) (List.set s30 (IntKind.i64.wrap ((IntKind.i64.wrap ((IntKind.i64.wrap ((((s30).length : Nat) : Int) - 1)) + 1)) - ((y66).1))).toNat y87))) := fun q => by rw [hs91_l]
                                try simp only [hs91_s]
                                conv => lhs; whnf
                                exact cq (hcont36 (IntKind.i64.wrap (s29 + 1), (List.take ((IntKind.i64.wrap ((IntKind.i64.wrap ((IntKind.i64.wrap ((IntKind.i64.wrap ((((s30).length : Nat) : Int) - 1)) + 1)) - ((y66).1))) + 1)).toNat) (List.set s30 (IntKind.i64.wrap ((IntKind.i64.wrap ((IntKind.i64.wrap ((((s30).length : Nat) : Int) - 1)) + 1)) - ((y66).1))).toNat y87))) (fun j => (bif Nat.beq j 1 then ((a32 1) + 1) else 0)) hm)
                              | c3 y67 =>
                                dsimp only at hm
                                have hk63 : call false 37 [AV.int .i64 (x40.op)] [] = some (AV.tup [AV.agg [AV.int .i64 ((y67).1), AV.func 57 [] []], AV.bool ((y67).2)], []) := (hc _ _ _).trans (ok_code_of n x40.op (.c3 y67) hy62)
                                try simp only [List.drop_zero, ls]
                                first | simp only [hk63] | rewrite [hk63]
                                try simp only [ls]
                                conv => lhs; whnf
                                refine bind_some2 hm ?_; clear hm; intro x93 hx93 hm
                                try simp only [dec_self]
                                conv => lhs; whnf
                                try simp only [ls]
                                refine bif_pos (by first | exact idx_in hx93 | exact idx_in' hx93 | exact own_in hx93 | exact own_in' hx93 | (have q := idx_in hx93; simp only [List.length_set] at q; exact q) | (have q := own_in' hx93; simp only [List.length_set, Nat.zero_add] at q ⊢; exact q)) ?_
                                conv => lhs; whnf
                                try simp only [idx_nth (f := encI) hx93, dec_self, ls]
                                conv => lhs; whnf
                                refine bind_some2 hm ?_; clear hm; intro x94 hx94 hm
                                try simp only [dec_self]
                                conv => lhs; whnf
                                try simp only [ls]
                                refine bif_pos (by first | exact idx_in hx94 | exact idx_in' hx94 | exact own_in hx94 | exact own_in' hx94 | (have q := idx_in hx94; simp only [List.length_set] at q; exact q) | (have q := own_in' hx94; simp only [List.length_set, Nat.zero_add] at q ⊢; exact q)) ?_
                                conv => lhs; whnf
                                try simp only [idx_nth (f := encI) hx94, dec_self, ls]
                                conv => lhs; whnf
                                refine bind_some2 hm ?_; clear hm; intro y95 hy95 hm
                                have hk96 : call false 57 [AV.int .i64 (x93), AV.int .i64 (x94), AV.int .i64 (v1_mod)] [] = some (AV.int .i64 (y95), []) := (hc _ _ _).trans (ok_code_of_8 n x93 x94 v1_mod y95 hy95)
                                try simp only [List.drop_zero, ls]
                                first | simp only [hk96] | rewrite [hk96]
                                try simp only [ls]
                                conv => lhs; whnf
                                refine bind_some2 hm ?_; clear hm; intro x97 hx97 hm
                                try simp only [dec_self]
                                conv => lhs; whnf
                                try simp only [ls]
                                refine bif_pos (by first | exact idx_in hx97 | exact idx_in' hx97 | exact own_in hx97 | exact own_in' hx97 | (have q := idx_in hx97; simp only [List.length_set] at q; exact q) | (have q := own_in' hx97; simp only [List.length_set, Nat.zero_add] at q ⊢; exact q)) ?_
                                conv => lhs; whnf
                                try simp only [idx_nth (f := encI) hx97, dec_self, ls]
                                conv => lhs; whnf
                                have hs98 : setNth (List.map encI s30) (IntKind.i64.wrap ((IntKind.i64.wrap ((IntKind.i64.wrap ((((s30).length : Nat) : Int) - 1)) + 1)) - ((y67).1))).toNat [AV.int .i64 (y95)] = List.map encI (List.set s30 (IntKind.i64.wrap ((IntKind.i64.wrap ((IntKind.i64.wrap ((((s30).length : Nat) : Int) - 1)) + 1)) - ((y67).1))).toNat y95) := by rw [setNth_eq, List.map_set]; rfl
                                have hs98_u : setNth (List.map encI s30) (IntKind.i64.wrap ((IntKind.i64.wrap ((IntKind.i64.wrap ((((s30).length : Nat) : Int) - 1)) + 1)) - ((y67).1))).toNat (updL (encI x97) 0 [AV.int .i64 (y95)]) = List.map encI (List.set s30 (IntKind.i64.wrap ((IntKind.i64.wrap ((IntKind.i64.wrap ((((s30).length : Nat) : Int) - 1)) + 1)) - ((y67).1))).toNat y95) := by rw [setNth_eq, List.map_set]; rfl
                                try simp only [idx_nth (f := encI) hx97, dec_self]
                                conv => lhs; whnf
                                try simp only [hs98, hs98_u, dec_self]
                                conv => lhs; whnf
                                refine chk_some2 hm ?_; clear hm; intro hc100 hm
                                try simp only [dec_self]
                                conv => lhs; whnf
                                try simp only [ls]
                                first | refine bif_pos hc100 ?_ | (refine bif_pos (by have q := hc100; simp only [List.length_set] at q; exact q) ?_)
                                have hs99 : List.take ((IntKind.i64.wrap ((IntKind.i64.wrap ((IntKind.i64.wrap ((IntKind.i64.wrap ((((s30).length : Nat) : Int) - 1)) + 1)) - ((y67).1))) + 1)).toNat) (List.map encI (List.set s30 (IntKind.i64.wrap ((IntKind.i64.wrap ((IntKind.i64.wrap ((((s30).length : Nat) : Int) - 1)) + 1)) - ((y67).1))).toNat y95)) = List.map encI (List.take ((IntKind.i64.wrap ((IntKind.i64.wrap ((IntKind.i64.wrap ((IntKind.i64.wrap ((((s30).length : Nat) : Int) - 1)) + 1)) - ((y67).1))) + 1)).toNat) (List.set s30 (IntKind.i64.wrap ((IntKind.i64.wrap ((IntKind.i64.wrap ((((s30).length : Nat) : Int) - 1)) + 1)) - ((y67).1))).toNat y95)) := by rw [List.map_take]
                                have hs99_l : List.length (List.take ((IntKind.i64.wrap ((IntKind.i64.wrap ((IntKind.i64.wrap ((IntKind.i64.wrap ((((s30).length : Nat) : Int) - 1)) + 1)) - ((y67).1))) + 1)).toNat) (List.set s30 (IntKind.i64.wrap ((IntKind.i64.wrap ((IntKind.i64.wrap ((((s30).length : Nat) : Int) - 1)) + 1)) - ((y67).1))).toNat y95)) = (IntKind.i64.wrap ((IntKind.i64.wrap ((IntKind.i64.wrap ((IntKind.i64.wrap ((((s30).length : Nat) : Int) - 1)) + 1)) - ((y67).1))) + 1)).toNat := by simp only [List.length_take]; exact Nat.min_eq_left (cut_le hc100)
                                conv => lhs; whnf
                                try simp only [dec_self, hs99]
                                conv => lhs; whnf
                                try simp only [hs99]
                                have hs99_s : ∀ q, AV.stk 1 q ((IntKind.i64.wrap ((IntKind.i64.wrap ((IntKind.i64.wrap ((IntKind.i64.wrap ((((s30).length : Nat) : Int) - 1)) + 1)) - ((y67).1))) + 1)).toNat) = AV.stk 1 q (List.length (List.take ((IntKind.i64.wrap ((IntKind.i64.wrap ((IntKind.i64.wrap ((IntKind.i64.wrap ((((s30).length : Nat) : Int) - 1)) + 1)) - ((y67).1))) + 1)).toNat) (List.set s30 (IntKind.i64.wrap ((IntKind.i64.wrap ((IntKind.i64.wrap ((((s30).length : Nat) : Int) - 1)) + 1)) - ((y67).1))).toNat y95))) := fun q => by rw [hs99_l]
                                try simp only [hs99_s]
                                conv => lhs; whnf
                                exact cq (hcont36 (IntKind.i64.wrap (s29 + 1), (List.take ((IntKind.i64.wrap ((IntKind.i64.wrap ((IntKind.i64.wrap ((IntKind.i64.wrap ((((s30).length : Nat) : Int) - 1)) + 1)) - ((y67).1))) + 1)).toNat) (List.set s30 (IntKind.i64.wrap ((IntKind.i64.wrap ((IntKind.i64.wrap ((((s30).length : Nat) : Int) - 1)) + 1)) - ((y67).1))).toNat y95))) (fun j => (bif Nat.beq j 1 then ((a32 1) + 1) else 0)) hm)
                              | c4 y68 =>
                                dsimp only at hm
                                have hk63 : call false 37 [AV.int .i64 (x40.op)] [] = some (AV.tup [AV.agg [AV.int .i64 ((y68).1), AV.func 56 [] []], AV.bool ((y68).2)], []) := (hc _ _ _).trans (ok_code_of n x40.op (.c4 y68) hy62)
                                try simp only [List.drop_zero, ls]
                                first | simp only [hk63] | rewrite [hk63]
                                try simp only [ls]
                                conv => lhs; whnf
                                refine bind_some2 hm ?_; clear hm; intro x101 hx101 hm
                                try simp only [dec_self]
                                conv => lhs; whnf
                                try simp only [ls]
                                refine bif_pos (by first | exact idx_in hx101 | exact idx_in' hx101 | exact own_in hx101 | exact own_in' hx101 | (have q := idx_in hx101; simp only [List.length_set] at q; exact q) | (have q := own_in' hx101; simp only [List.length_set, Nat.zero_add] at q ⊢; exact q)) ?_
                                conv => lhs; whnf
                                try simp only [idx_nth (f := encI) hx101, dec_self, ls]
                                conv => lhs; whnf
                                refine bind_some2 hm ?_; clear hm; intro x102 hx102 hm
                                try simp only [dec_self]
                                conv => lhs; whnf
                                try simp only [ls]
                                refine bif_pos (by first | exact idx_in hx102 | exact idx_in' hx102 | exact own_in hx102 | exact own_in' hx102 | (have q := idx_in hx102; simp only [List.length_set] at q; exact q) | (have q := own_in' hx102; simp only [List.length_set, Nat.zero_add] at q ⊢; exact q)) ?_
                                conv => lhs; whnf
                                try simp only [idx_nth (f := encI) hx102, dec_self, ls]
                                conv => lhs; whnf
                                refine bind_some2 hm ?_; clear hm; intro y103 hy103 hm
                                have hk104 : call false 56 [AV.int .i64 (x101), AV.int .i64 (x102), AV.int .i64 (v1_mod)] [] = some (AV.int .i64 (y103), []) := (hc _ _ _).trans (ok_code_of_7 n x101 x102 v1_mod y103 hy103)
                                try simp only [List.drop_zero, ls]
                                first | simp only [hk104] | rewrite [hk104]
                                try simp only [ls]
                                conv => lhs; whnf
                                refine bind_some2 hm ?_; clear hm; intro x105 hx105 hm
                                try simp only [dec_self]
                                conv => lhs; whnf
                                try simp only [ls]
                                refine bif_pos (by first | exact idx_in hx105 | exact idx_in' hx105 | exact own_in hx105 | exact own_in' hx105 | (have q := idx_in hx105; simp only [List.length_set] at q; exact q) | (have q := own_in' hx105; simp only [List.length_set, Nat.zero_add] at q ⊢; exact q)) ?_
                                conv => lhs; whnf
                                try simp only [idx_nth (f := encI) hx105, dec_self, ls]
                                conv => lhs; whnf
                                have hs106 : setNth (List.map encI s30) (IntKind.i64.wrap ((IntKind.i64.wrap ((IntKind.i64.wrap ((((s30).length : Nat) : Int) - 1)) + 1)) - ((y68).1))).toNat [AV.int .i64 (y103)] = List.map encI (List.set s30 (IntKind.i64.wrap ((IntKind.i64.wrap ((IntKind.i64.wrap ((((s30).length : Nat) : Int) - 1)) + 1)) - ((y68).1))).toNat y103) := by rw [setNth_eq, List.map_set]; rfl
                                have hs106_u : setNth (List.map encI s30) (IntKind.i64.wrap ((IntKind.i64.wrap ((IntKind.i64.wrap ((((s30).length : Nat) : Int) - 1)) + 1)) - ((y68).1))).toNat (updL (encI x105) 0 [AV.int .i64 (y103)]) = List.map encI (List.set s30 (IntKind.i64.wrap ((IntKind.i64.wrap ((IntKind.i64.wrap ((((s30).length : Nat) : Int) - 1)) + 1)) - ((y68).1))).toNat y103) := by rw [setNth_eq, List.map_set]; rfl
                                try simp only [idx_nth (f := encI) hx105, dec_self]
                                conv => lhs; whnf
                                try simp only [hs106, hs106_u, dec_self]
                                conv => lhs; whnf
                                refine chk_some2 hm ?_; clear hm; intro hc108 hm
                                try simp only [dec_self]
                                conv => lhs; whnf
                                try simp only [ls]
                                first | refine bif_pos hc108 ?_ | (refine bif_pos (by have q := hc108; simp only [List.length_set] at q; exact q) ?_)
                                have hs107 : List.take ((IntKind.i64.wrap ((IntKind.i64.wrap ((IntKind.i64.wrap ((IntKind.i64.wrap ((((s30).length : Nat) : Int) - 1)) + 1)) - ((y68).1))) + 1)).toNat) (List.map encI (List.set s30 (IntKind.i64.wrap ((IntKind.i64.wrap ((IntKind.i64.wrap ((((s30).length : Nat) : Int) - 1)) + 1)) - ((y68).1))).toNat y103)) = List.map encI (List.take ((IntKind.i64.wrap ((IntKind.i64.wrap ((IntKind.i64.wrap ((IntKind.i64.wrap ((((s30).length : Nat) : Int) - 1)) + 1)) - ((y68).1))) + 1)).toNat) (List.set s30 (IntKind.i64.wrap ((IntKind.i64.wrap ((IntKind.i64.wrap ((((s30).length : Nat) : Int) - 1)) + 1)) - ((y68).1))).toNat y103)) := by rw [List.map_take]
                                have hs107_l : List.length (List.take ((IntKind.i64.wrap ((IntKind.i64.wrap ((IntKind.i64.wrap ((IntKind.i64.wrap ((((s30).length : Nat) : Int) - 1)) + 1)) - ((y68).1))) + 1)).toNat) (List.set s30 (IntKind.i64.wrap ((IntKind.i64.wrap ((IntKind.i64.wrap ((((s30).length : Nat) : Int) - 1)) + 1)) - ((y68).1))).toNat y103)) = (IntKind.i64.wrap ((IntKind.i64.wrap ((IntKind.i64.wrap ((IntKind.i64.wrap ((((s30).length : Nat) : Int) - 1)) + 1)) - ((y68).1))) + 1)).toNat := by simp only [List.length_take]; exact Nat.min_eq_left (cut_le hc108)
                                conv => lhs; whnf
                                try simp only [dec_self, hs107]
                                conv => lhs; whnf
                                try simp only [hs107]
                                have hs107_s : ∀ q, AV.stk 1 q ((IntKind.i64.wrap ((IntKind.i64.wrap ((IntKind.i64.wrap ((IntKind.i64.wrap ((((s30).length : Nat) : Int) - 1)) + 1)) - ((y68).1))) + 1)).toNat) = AV.stk 1 q (List.length (List.take ((IntKind.i64.wrap ((IntKind.i64.wrap ((IntKind.i64.wrap ((IntKind.i64.wrap ((((s30).length : Nat) : Int) - 1)) + 1)) - ((y68).1))) + 1)).toNat) (List.set s30 (IntKind.i64.wrap ((IntKind.i64.wrap ((IntKind.i64.wrap ((((s30).length : Nat) : Int) - 1)) + 1)) - ((y68).1))).toNat y103))) := fun q => by rw [hs107_l]
                                try simp only [hs107_s]
                                conv => lhs; whnf
                                exact cq (hcont36 (IntKind.i64.wrap (s29 + 1), (List.take ((IntKind.i64.wrap ((IntKind.i64.wrap ((IntKind.i64.wrap ((IntKind.i64.wrap ((((s30).length : Nat) : Int) - 1)) + 1)) - ((y68).1))) + 1)).toNat) (List.set s30 (IntKind.i64.wrap ((IntKind.i64.wrap ((IntKind.i64.wrap ((((s30).length : Nat) : Int) - 1)) + 1)) - ((y68).1))).toNat y103))) (fun j => (bif Nat.beq j 1 then ((a32 1) + 1) else 0)) hm)
                              | c5 y69 =>
                                dsimp only at hm
                                have hk63 : call false 37 [AV.int .i64 (x40.op)] [] = some (AV.tup [AV.agg [AV.int .i64 ((y69).1), AV.func 55 [] []], AV.bool ((y69).2)], []) := (hc _ _ _).trans (ok_code_of n x40.op (.c5 y69) hy62)
                                try simp only [List.drop_zero, ls]
                                first | simp only [hk63] | rewrite [hk63]
                                try simp only [ls]
                                conv => lhs; whnf
                                refine bind_some2 hm ?_; clear hm; intro x109 hx109 hm
                                try simp only [dec_self]
                                conv => lhs; whnf
                                try simp only [ls]
                                refine bif_pos (by first | exact idx_in hx109 | exact idx_in' hx109 | exact own_in hx109 | exact own_in' hx109 | (have q := idx_in hx109; simp only [List.length_set] at q; exact q) | (have q := own_in' hx109; simp only [List.length_set, Nat.zero_add] at q ⊢; exact q)) ?_
                                conv => lhs; whnf
                                try simp only [idx_nth (f := encI) hx109, dec_self, ls]
                                conv => lhs; whnf
                                refine bind_some2 hm ?_; clear hm; intro x110 hx110 hm
                                try simp only [dec_self]
                                conv => lhs; whnf
                                try simp only [ls]
                                refine bif_pos (by first | exact idx_in hx110 | exact idx_in' hx110 | exact own_in hx110 | exact own_in' hx110 | (have q := idx_in hx110; simp only [List.length_set] at q; exact q) | (have q := own_in' hx110; simp only [List.length_set, Nat.zero_add] at q ⊢; exact q)) ?_
                                conv => lhs; whnf
                                try simp only [idx_nth (f := encI) hx110, dec_self, ls]
                                conv => lhs; whnf
                                refine bind_some2 hm ?_; clear hm; intro y111 hy111 hm
                                have hk112 : call false 55 [AV.int .i64 (x109), AV.int .i64 (x110), AV.int .i64 (v1_mod)] [] = some (AV.int .i64 (y111), []) := (hc _ _ _).trans (ok_code_of_6 n x109 x110 v1_mod y111 hy111)
                                try simp only [List.drop_zero, ls]
                                first | simp only [hk112] | rewrite [hk112]
                                try simp only [ls]
                                conv => lhs; whnf
                                refine bind_some2 hm ?_; clear hm; intro x113 hx113 hm
                                try simp only [dec_self]
                                conv => lhs; whnf
                                try simp only [ls]
                                refine bif_pos (by first | exact idx_in hx113 | exact idx_in' hx113 | exact own_in hx113 | exact own_in' hx113 | (have q := idx_in hx113; simp only [List.length_set] at q; exact q) | (have q := own_in' hx113; simp only [List.length_set, Nat.zero_add] at q ⊢; exact q)) ?_
                                conv => lhs; whnf
                                try simp only [idx_nth (f := encI) hx113, dec_self, ls]
                                conv => lhs; whnf
                                have hs114 : setNth (List.map encI s30) (IntKind.i64.wrap ((IntKind.i64.wrap ((IntKind.i64.wrap ((((s30).length : Nat) : Int) - 1)) + 1)) - ((y69).1))).toNat [AV.int .i64 (y111)] = List.map encI (List.set s30 (IntKind.i64.wrap ((IntKind.i64.wrap ((IntKind.i64.wrap ((((s30).length : Nat) : Int) - 1)) + 1)) - ((y69).1))).toNat y111) := by rw [setNth_eq, List.map_set]; rfl
                                have hs114_u : setNth (List.map encI s30) (IntKind.i64.wrap ((IntKind.i64.wrap ((IntKind.i64.wrap ((((s30).length : Nat) : Int) - 1)) + 1)) - ((y69).1))).toNat (updL (encI x113) 0 [AV.int .i64 (y111)]) = List.map encI (List.set s30 (IntKind.i64.wrap ((IntKind.i64.wrap ((IntKind.i64.wrap ((((s30).length : Nat) : Int) - 1)) + 1)) - ((y69).1))).toNat y111) := by rw [setNth_eq, List.map_set]; rfl
                                try simp only [idx_nth (f := encI) hx113, dec_self]
                                conv => lhs; whnf
                                try simp only [hs114, hs114_u, dec_self]
                                conv => lhs; whnf
                                refine chk_some2 hm ?_; clear hm; intro hc116 hm
                                try simp only [dec_self]
                                conv => lhs; whnf
                                try simp only [ls]
                                first | refine bif_pos hc116 ?_ | (refine bif_pos (by have q := hc116; simp only [List.length_set] at q; exact q) ?_)
                                have hs115 : List.take ((IntKind.i64.wrap ((IntKind.i64.wrap ((IntKind.i64.wrap ((IntKind.i64.wrap ((((s30).length : Nat) : Int) - 1)) + 1)) - ((y69).1))) + 1)).toNat) (List.map encI (List.set s30 (IntKind.i64.wrap ((IntKind.i64.wrap ((IntKind.i64.wrap ((((s30).length : Nat) : Int) - 1)) + 1)) - ((y69).1))).toNat y111)) = List.map encI (List.take ((IntKind.i64.wrap ((IntKind.i64.wrap ((IntKind.i64.wrap ((IntKind.i64.wrap ((((s30).length : Nat) : Int) - 1)) + 1)) - ((y69).1))) + 1)).toNat) (List.set s30 (IntKind.i64.wrap ((IntKind.i64.wrap ((IntKind.i64.wrap ((((s30).length : Nat) : Int) - 1)) + 1)) - ((y69).1))).toNat y111)) := by rw [List.map_take]
                                have hs115_l : List.length (List.take ((IntKind.i64.wrap ((IntKind.i64.wrap ((IntKind.i64.wrap ((IntKind.i64.wrap ((((s30).length : Nat) : Int) - 1)) + 1)) - ((y69).1))) + 1)).toNat) (List.set s30 (IntKind.i64.wrap ((IntKind.i64.wrap ((IntKind.i64.wrap ((((s30).length : Nat) : Int) - 1)) + 1)) - ((y69).1))).toNat y111)) = (IntKind.i64.wrap ((IntKind.i64.wrap ((IntKind.i64.wrap ((IntKind.i64.wrap ((((s30).length : Nat) : Int) - 1)) + 1)) - ((y69).1))) + 1)).toNat := by simp only [List.length_take]; exact Nat.min_eq_left (cut_le hc116)
                                conv => lhs; whnf
                                try simp only [dec_self, hs115]
                                conv => lhs; whnf
                                try simp only [hs115]
                                have hs115_s : ∀ q, AV.stk 1 q ((IntKind.i64.wrap ((IntKind.i64.wrap ((IntKind.i64.wrap ((IntKind.i64.wrap ((((s30).length : Nat) : Int) - 1)) + 1)) - ((y69).1))) + 1)).toNat) = AV.stk 1 q (List.length (List.take ((IntKind.i64.wrap ((IntKind.i64.wrap ((IntKind.i64.wrap ((IntKind.i64.wrap ((((s30).length : Nat) : Int) - 1)) + 1)) - ((y69).1))) + 1)).toNat) (List.set s30 (IntKind.i64.wrap ((IntKind.i64.wrap ((IntKind.i64.wrap ((((s30).length : Nat) : Int) - 1)) + 1)) - ((y69).1))).toNat y111))) := fun q => by rw [hs115_l]
                                try simp only [hs115_s]
                                conv => lhs; whnf
                                exact cq (hcont36 (IntKind.i64.wrap (s29 + 1), (List.take ((IntKind.i64.wrap ((IntKind.i64.wrap ((IntKind.i64.wrap ((IntKind.i64.wrap ((((s30).length : Nat) : Int) - 1)) + 1)) - ((y69).1))) + 1)).toNat) (List.set s30 (IntKind.i64.wrap ((IntKind.i64.wrap ((IntKind.i64.wrap ((((s30).length : Nat) : Int) - 1)) + 1)) - ((y69).1))).toNat y111))) (fun j => (bif Nat.beq j 1 then ((a32 1) + 1) else 0)) hm)
                              | c6 y70 =>
                                dsimp only at hm
                                have hk63 : call false 37 [AV.int .i64 (x40.op)] [] = some (AV.tup [AV.agg [AV.int .i64 ((y70).1), AV.func 54 [] []], AV.bool ((y70).2)], []) := (hc _ _ _).trans (ok_code_of n x40.op (.c6 y70) hy62)
                                try simp only [List.drop_zero, ls]
                                first | simp only [hk63] | rewrite [hk63]
                                try simp only [ls]
                                conv => lhs; whnf
                                refine bind_some2 hm ?_; clear hm; intro x117 hx117 hm
                                try simp only [dec_self]
                                conv => lhs; whnf
                                try simp only [ls]
                                refine bif_pos (by first | exact idx_in hx117 | exact idx_in' hx117 | exact own_in hx117 | exact own_in' hx117 | (have q := idx_in hx117; simp only [List.length_set] at q; exact q) | (have q := own_in' hx117; simp only [List.length_set, Nat.zero_add] at q ⊢; exact q)) ?_
                                conv => lhs; whnf
                                try simp only [idx_nth (f := encI) hx117, dec_self, ls]
                                conv => lhs; whnf
                                refine bind_some2 hm ?_; clear hm; intro x118 hx118 hm
                                try simp only [dec_self]
                                conv => lhs; whnf
                                try simp only [ls]
                                refine bif_pos (by first | exact idx_in hx118 | exact idx_in' hx118 | exact own_in hx118 | exact own_in' hx118 | (have q := idx_in hx118; simp only [List.length_set] at q; exact q) | (have q := own_in' hx118; simp only [List.length_set, Nat.zero_add] at q ⊢; exact q)) ?_
                                conv => lhs; whnf
                                try simp only [idx_nth (f := encI) hx118, dec_self, ls]
                                conv => lhs; whnf
                                refine bind_some2 hm ?_; clear hm; intro y119 hy119 hm
                                have hk120 : call false 54 [AV.int .i64 (x117), AV.int .i64 (x118), AV.int .i64 (v1_mod)] [] = some (AV.int .i64 (y119), []) := (hc _ _ _).trans (ok_code_of_5 n x117 x118 v1_mod y119 hy119)
                                try simp only [List.drop_zero, ls]
                                first | simp only [hk120] | rewrite [hk120]
                                try simp only [ls]
                                conv => lhs; whnf
                                refine bind_some2 hm ?_; clear hm; intro x121 hx121 hm
                                try simp only [dec_self]
                                conv => lhs; whnf
                                try simp only [ls]
                                refine bif_pos (by first | exact idx_in hx121 | exact idx_in' hx121 | exact own_in hx121 | exact own_in' hx121 | (have q := idx_in hx121; simp only [List.length_set] at q; exact q) | (have q := own_in' hx121; simp only [List.length_set, Nat.zero_add] at q ⊢; exact q)) ?_
                                conv => lhs; whnf
                                try simp only [idx_nth (f := encI) hx121, dec_self, ls]
                                conv => lhs; whnf
                                have hs122 : setNth (List.map encI s30) (IntKind.i64.wrap ((IntKind.i64.wrap ((IntKind.i64.wrap ((((s30).length : Nat) : Int) - 1)) + 1)) - ((y70).1))).toNat [AV.int .i64 (y119)] = List.map encI (List.set s30 (IntKind.i64.wrap ((IntKind.i64.wrap ((IntKind.i64.wrap ((((s30).length : Nat) : Int) - 1)) + 1)) - ((y70).1))).toNat y119) := by rw [setNth_eq, List.map_set]; rfl
                                have hs122_u : setNth (List.map encI s30) (IntKind.i64.wrap ((IntKind.i64.wrap ((IntKind.i64.wrap ((((s30).length : Nat) : Int) - 1)) + 1)) - ((y70).1))).toNat (updL (encI x121) 0 [AV.int .i64 (y119)]) = List.map encI (List.set s30 (IntKind.i64.wrap ((IntKind.i64.wrap ((IntKind.i64.wrap ((((s30).length : Nat) : Int) - 1)) + 1)) - ((y70).1))).toNat y119) := by rw [setNth_eq, List.map_set]; rfl
                                try simp only [idx_nth (f := encI) hx121, dec_self]
                                conv => lhs; whnf
                                try simp only [hs122, hs122_u, dec_self]
                                conv => lhs; whnf
                                refine chk_some2 hm ?_; clear hm; intro hc124 hm
                                try simp only [dec_self]
                                conv => lhs; whnf
                                try simp only [ls]
                                first | refine bif_pos hc124 ?_ | (refine bif_pos (by have q := hc124; simp only [List.length_set] at q; exact q) ?_)
                                have hs123 : List.take ((IntKind.i64.wrap ((IntKind.i64.wrap ((IntKind.i64.wrap ((IntKind.i64.wrap ((((s30).length : Nat) : Int) - 1)) + 1)) - ((y70).1))) + 1)).toNat) (List.map encI (List.set s30 (IntKind.i64.wrap ((IntKind.i64.wrap ((IntKind.i64.wrap ((((s30).length : Nat) : Int) - 1)) + 1)) - ((y70).1))).toNat y119)) = List.map encI (List.take ((IntKind.i64.wrap ((IntKind.i64.wrap ((IntKind.i64.wrap ((IntKind.i64.wrap ((((s30).length : Nat) : Int) - 1)) + 1)) - ((y70).1))) + 1)).toNat) (List.set s30 (IntKind.i64.wrap ((IntKind.i64.wrap ((IntKind.i64.wrap ((((s30).length : Nat) : Int) - 1)) + 1)) - ((y70).1))).toNat y119)) := by rw [List.map_take]
                                have hs123_l : List.length (List.take ((IntKind.i64.wrap ((IntKind.i64.wrap ((IntKind.i64.wrap ((IntKind.i64.wrap ((((s30).length : Nat) : Int) - 1)) + 1)) - ((y70).1))) + 1)).toNat) (List.set s30 (IntKind.i64.wrap ((IntKind.i64.wrap ((IntKind.i64.wrap ((((s30).length : Nat) : Int) - 1)) + 1)) - ((y70).1))).toNat y119)) = (IntKind.i64.wrap ((IntKind.i64.wrap ((IntKind.i64.wrap ((IntKind.i64.wrap ((((s30).length : Nat) : Int) - 1)) + 1)) - ((y70).1))) + 1)).toNat := by simp only [List.length_take]; exact Nat.min_eq_left (cut_le hc124)
                                conv => lhs; whnf
                                try simp only [dec_self, hs123]
                                conv => lhs; whnf
                                try simp only [hs123]
                                have hs123_s : ∀ q, AV.stk 1 q ((IntKind.i64.wrap ((IntKind.i64.wrap ((IntKind.i64.wrap ((IntKind.i64.wrap ((((s30).length : Nat) : Int) - 1)) + 1)) - ((y70).1))) + 1)).toNat) = AV.stk 1 q (List.length (List.take ((IntKind.i64.wrap ((IntKind.i64.wrap ((IntKind.i64.wrap ((IntKind.i64.wrap ((((s30).length : Nat) : Int) - 1)) + 1)) - ((y70).1))) + 1)).toNat) (List.set s30 (IntKind.i64.wrap ((IntKind.i64.wrap ((IntKind.i64.wrap ((((s30).length : Nat) : Int) - 1)) + 1)) - ((y70).1))).toNat y119))) := fun q => by rw [hs123_l]
                                try simp only [hs123_s]
                                conv => lhs; whnf
                                exact cq (hcont36 (IntKind.i64.wrap (s29 + 1), (List.take ((IntKind.i64.wrap ((IntKind.i64.wrap ((IntKind.i64.wrap ((IntKind.i64.wrap ((((s30).length : Nat) : Int) - 1)) + 1)) - ((y70).1))) + 1)).toNat) (List.set s30 (IntKind.i64.wrap ((IntKind.i64.wrap ((IntKind.i64.wrap ((((s30).length : Nat) : Int) - 1)) + 1)) - ((y70).1))).toNat y119))) (fun j => (bif Nat.beq j 1 then ((a32 1) + 1) else 0)) hm)
                              | c7 y71 =>
                                dsimp only at hm
                                have hk63 : call false 37 [AV.int .i64 (x40.op)] [] = some (AV.tup [AV.agg [AV.int .i64 ((y71).1), AV.func 53 [] []], AV.bool ((y71).2)], []) := (hc _ _ _).trans (ok_code_of n x40.op (.c7 y71) hy62)
                                try simp only [List.drop_zero, ls]
                                first | simp only [hk63] | rewrite [hk63]
                                try simp only [ls]
                                conv => lhs; whnf
                                refine bind_some2 hm ?_; clear hm; intro x125 hx125 hm
                                try simp only [dec_self]
                                conv => lhs; whnf
                                try simp only [ls]
                                refine bif_pos (by first | exact idx_in hx125 | exact idx_in' hx125 | exact own_in hx125 | exact own_in' hx125 | (have q := idx_in hx125; simp only [List.length_set] at q; exact q) | (have q := own_in' hx125; simp only [List.length_set, Nat.zero_add] at q ⊢; exact q)) ?_
                                conv => lhs; whnf
                                try simp only [idx_nth (f := encI) hx125, dec_self, ls]
                                conv => lhs; whnf
                                refine bind_some2 hm ?_; clear hm; intro x126 hx126 hm
                                try simp only [dec_self]
                                conv => lhs; whnf
                                try simp only [ls]
                                refine bif_pos (by first | exact idx_in hx126 | exact idx_in' hx126 | exact own_in hx126 | exact own_in' hx126 | (have q := idx_in hx126; simp only [List.length_set] at q; exact q) | (have q := own_in' hx126; simp only [List.length_set, Nat.zero_add] at q ⊢; exact q)) ?_
                                conv => lhs; whnf
                                try simp only [idx_nth (f := encI) hx126, dec_self, ls]
                                conv => lhs; whnf
                                refine bind_some2 hm ?_; clear hm; intro y127 hy127 hm
                                have hk128 : call false 53 [AV.int .i64 (x125), AV.int .i64 (x126), AV.int .i64 (v1_mod)] [] = some (AV.int .i64 (y127), []) := (hc _ _ _).trans (ok_code_of_4 n x125 x126 v1_mod y127 hy127)
                                try simp only [List.drop_zero, ls]
                                first | simp only [hk128] | rewrite [hk128]
                                try simp only [ls]
                                conv => lhs; whnf
                                refine bind_some2 hm ?_; clear hm; intro x129 hx129 hm
                                try simp only [dec_self]
                                conv => lhs; whnf
                                try simp only [ls]
                                refine bif_pos (by first | exact idx_in hx129 | exact idx_in' hx129 | exact own_in hx129 | exact own_in' hx129 | (have q := idx_in hx129; simp only [List.length_set] at q; exact q) | (have q := own_in' hx129; simp only [List.length_set, Nat.zero_add] at q ⊢; exact q)) ?_
                                conv => lhs; whnf
                                try simp only [idx_nth (f := encI) hx129, dec_self, ls]
                                conv => lhs; whnf
                                have hs130 : setNth (List.map encI s30) (IntKind.i64.wrap ((IntKind.i64.wrap ((IntKind.i64.wrap ((((s30).length : Nat) : Int) - 1)) + 1)) - ((y71).1))).toNat [AV.int .i64 (y127)] = List.map encI (List.set s30 (IntKind.i64.wrap ((IntKind.i64.wrap ((IntKind.i64.wrap ((((s30).length : Nat) : Int) - 1)) + 1)) - ((y71).1))).toNat y127) := by rw [setNth_eq, List.map_set]; rfl
                                have hs130_u : setNth (List.map encI s30) (IntKind.i64.wrap ((IntKind.i64.wrap ((IntKind.i64.wrap ((((s30).length : Nat) : Int) - 1)) + 1)) - ((y71).1))).toNat (updL (encI x129) 0 [AV.int .i64 (y127)]) = List.map encI (List.set s30 (IntKind.i64.wrap ((IntKind.i64.wrap ((IntKind.i64.wrap ((((s30).length : Nat) : Int) - 1)) + 1)) - ((y71).1))).toNat y127) := by rw [setNth_eq, List.map_set]; rfl
                                try simp only [idx_nth (f := encI) hx129, dec_self]
                                conv => lhs; whnf
                                try simp only [hs130, hs130_u, dec_self]
                                conv => lhs; whnf
                                refine chk_some2 hm ?_; clear hm; intro hc132 hm
                                try simp only [dec_self]
                                conv => lhs; whnf
                                try simp only [ls]
                                first | refine bif_pos hc132 ?_ | (refine bif_pos (by have q := hc132; simp only [List.length_set] at q; exact q) ?_)
                                have hs131 : List.take ((IntKind.i64.wrap ((IntKind.i64.wrap ((IntKind.i64.wrap ((IntKind.i64.wrap ((((s30).length : Nat) : Int) - 1)) + 1)) - ((y71).1))) + 1)).toNat) (List.map encI (List.set s30 (IntKind.i64.wrap ((IntKind.i64.wrap ((IntKind.i64.wrap ((((s30).length : Nat) : Int) - 1)) + 1)) - ((y71).1))).toNat y127)) = List.map encI (List.take ((IntKind.i64.wrap ((IntKind.i64.wrap ((IntKind.i64.wrap ((IntKind.i64.wrap ((((s30).length : Nat) : Int) - 1)) + 1)) - ((y71).1))) + 1)).toNat) (List.set s30 (IntKind.i64.wrap ((IntKind.i64.wrap ((IntKind.i64.wrap ((((s30).length : Nat) : Int) - 1)) + 1)) - ((y71).1))).toNat y127)) := by rw [List.map_take]
                                have hs131_l : List.length (List.take ((IntKind.i64.wrap ((IntKind.i64.wrap ((IntKind.i64.wrap ((IntKind.i64.wrap ((((s30).length : Nat) : Int) - 1)) + 1)) - ((y71).1))) + 1)).toNat) (List.set s30 (IntKind.i64.wrap ((IntKind.i64.wrap ((IntKind.i64.wrap ((((s30).length : Nat) : Int) - 1)) + 1)) - ((y71).1))).toNat y127)) = (IntKind.i64.wrap ((IntKind.i64.wrap ((IntKind.i64.wrap ((IntKind.i64.wrap ((((s30).length : Nat) : Int) - 1)) + 1)) - ((y71).1))) + 1)).toNat := by simp only [List.length_take]; exact Nat.min_eq_left (cut_le hc132)
                                conv => lhs; whnf
                                try simp only [dec_self, hs131]
                                conv => lhs; whnf
                                try simp only [hs131]
                                have hs131_s : ∀ q, AV.stk 1 q ((IntKind.i64.wrap ((IntKind.i64.wrap ((IntKind.i64.wrap ((IntKind.i64.wrap ((((s30).length : Nat) : Int) - 1)) + 1)) - ((y71).1))) + 1)).toNat) = AV.stk 1 q (List.length (List.take ((IntKind.i64.wrap ((IntKind.i64.wrap ((IntKind.i64.wrap ((IntKind.i64.wrap ((((s30).length : Nat) : Int) - 1)) + 1)) - ((y71).1))) + 1)).toNat) (List.set s30 (IntKind.i64.wrap ((IntKind.i64.wrap ((IntKind.i64.wrap ((((s30).length : Nat) : Int) - 1)) + 1)) - ((y71).1))).toNat y127))) := fun q => by rw [hs131_l]
                                try simp only [hs131_s]
                                conv => lhs; whnf
                                exact cq (hcont36 (IntKind.i64.wrap (s29 + 1), (List.take ((IntKind.i64.wrap ((IntKind.i64.wrap ((IntKind.i64.wrap ((IntKind.i64.wrap ((((s30).length : Nat) : Int) - 1)) + 1)) - ((y71).1))) + 1)).toNat) (List.set s30 (IntKind.i64.wrap ((IntKind.i64.wrap ((IntKind.i64.wrap ((((s30).length : Nat) : Int) - 1)) + 1)) - ((y71).1))).toNat y127))) (fun j => (bif Nat.beq j 1 then ((a32 1) + 1) else 0)) hm)
                              | c8 y72 =>
                                dsimp only at hm
                                have hk63 : call false 37 [AV.int .i64 (x40.op)] [] = some (AV.tup [AV.agg [AV.int .i64 ((y72).1), AV.func 52 [] []], AV.bool ((y72).2)], []) := (hc _ _ _).trans (ok_code_of n x40.op (.c8 y72) hy62)
                                try simp only [List.drop_zero, ls]
                                first | simp only [hk63] | rewrite [hk63]
                                try simp only [ls]
                                conv => lhs; whnf
                                refine bind_some2 hm ?_; clear hm; intro x133 hx133 hm
                                try simp only [dec_self]
                                conv => lhs; whnf
                                try simp only [ls]
                                refine bif_pos (by first | exact idx_in hx133 | exact idx_in' hx133 | exact own_in hx133 | exact own_in' hx133 | (have q := idx_in hx133; simp only [List.length_set] at q; exact q) | (have q := own_in' hx133; simp only [List.length_set, Nat.zero_add] at q ⊢; exact q)) ?_
                                conv => lhs; whnf
                                try simp only [idx_nth (f := encI) hx133, dec_self, ls]
                                conv => lhs; whnf
                                refine bind_some2 hm ?_; clear hm; intro x134 hx134 hm
                                try simp only [dec_self]
                                conv => lhs; whnf
                                try simp only [ls]
                                refine bif_pos (by first | exact idx_in hx134 | exact idx_in' hx134 | exact own_in hx134 | exact own_in' hx134 | (have q := idx_in hx134; simp only [List.length_set] at q; exact q) | (have q := own_in' hx134; simp only [List.length_set, Nat.zero_add] at q ⊢; exact q)) ?_
                                conv => lhs; whnf
                                try simp only [idx_nth (f := encI) hx134, dec_self, ls]
                                conv => lhs; whnf
                                refine bind_some2 hm ?_; clear hm; intro y135 hy135 hm
                                have hk136 : call false 52 [AV.int .i64 (x133), AV.int .i64 (x134), AV.int .i64 (v1_mod)] [] = some (AV.int .i64 (y135), []) := (hc _ _ _).trans (ok_code_of_3 n x133 x134 v1_mod y135 hy135)
                                try simp only [List.drop_zero, ls]
                                first | simp only [hk136] | rewrite [hk136]
                                try simp only [ls]
                                conv => lhs; whnf
                                refine bind_some2 hm ?_; clear hm; intro x137 hx137 hm
                                try simp only [dec_self]
                                conv => lhs; whnf
                                try simp only [ls]
                                refine bif_pos (by first | exact idx_in hx137 | exact idx_in' hx137 | exact own_in hx137 | exact own_in' hx137 | (have q := idx_in hx137; simp only [List.length_set] at q; exact q) | (have q := own_in' hx137; simp only [List.length_set, Nat.zero_add] at q ⊢; exact q)) ?_
                                conv => lhs; whnf
                                try simp only [idx_nth (f := encI) hx137, dec_self, ls]
                                conv => lhs; whnf
                                have hs138 : setNth (List.map encI s30) (IntKind.i64.wrap ((IntKind.i64.wrap ((IntKind.i64.wrap ((((s30).length : Nat) : Int) - 1)) + 1)) - ((y72).1))).toNat [AV.int .i64 (y135)] = List.map encI (List.set s30 (IntKind.i64.wrap ((IntKind.i64.wrap ((IntKind.i64.wrap ((((s30).length : Nat) : Int) - 1)) + 1)) - ((y72).1))).toNat y135) := by rw [setNth_eq, List.map_set]; rfl
                                have hs138_u : setNth (List.map encI s30) (IntKind.i64.wrap ((IntKind.i64.wrap ((IntKind.i64.wrap ((((s30).length : Nat) : Int) - 1)) + 1)) - ((y72).1))).toNat (updL (encI x137) 0 [AV.int .i64 (y135)]) = List.map encI (List.set s30 (IntKind.i64.wrap ((IntKind.i64.wrap ((IntKind.i64.wrap ((((s30).length : Nat) : Int) - 1)) + 1)) - ((y72).1))).toNat y135) := by rw [setNth_eq, List.map_set]; rfl
                                try simp only [idx_nth (f := encI) hx137, dec_self]
                                conv => lhs; whnf
                                try simp only [hs138, hs138_u, dec_self]
                                conv => lhs; whnf
                                refine chk_some2 hm ?_; clear hm; intro hc140 hm
                                try simp only [dec_self]
                                conv => lhs; whnf
                                try simp only [ls]
                                first | refine bif_pos hc140 ?_ | (refine bif_pos (by have q := hc140; simp only [List.length_set] at q; exact q) ?_)
                                have hs139 : List.take ((IntKind.i64.wrap ((IntKind.i64.wrap ((IntKind.i64.wrap ((IntKind.i64.wrap ((((s30).length : Nat) : Int) - 1)) + 1)) - ((y72).1))) + 1)).toNat) (List.map encI (List.set s30 (IntKind.i64.wrap ((IntKind.i64.wrap ((IntKind.i64.wrap ((((s30).length : Nat) : Int) - 1)) + 1)) - ((y72).1))).toNat y135)) = List.map encI (List.take ((IntKind.i64.wrap ((IntKind.i64.wrap ((IntKind.i64.wrap ((IntKind.i64.wrap ((((s30).length : Nat) : Int) - 1)) + 1)) - ((y72).1))) + 1)).toNat) (List.set s30 (IntKind.i64.wrap ((IntKind.i64.wrap ((IntKind.i64.wrap ((((s30).length : Nat) : Int) - 1)) + 1)) - ((y72).1))).toNat y135)) := by rw [List.map_take]
                                have hs139_l : List.length (List.take ((IntKind.i64.wrap ((IntKind.i64.wrap ((IntKind.i64.wrap ((IntKind.i64.wrap ((((s30).length : Nat) : Int) - 1)) + 1)) - ((y72).1))) + 1)).toNat) (List.set s30 (IntKind.i64.wrap ((IntKind.i64.wrap ((IntKind.i64.wrap ((((s30).length : Nat) : Int) - 1)) + 1)) - ((y72).1))).toNat y135)) = (IntKind.i64.wrap ((IntKind.i64.wrap ((IntKind.i64.wrap ((IntKind.i64.wrap ((((s30).length : Nat) : Int) - 1)) + 1)) - ((y72).1))) + 1)).toNat := by simp only [List.length_take]; exact Nat.min_eq_left (cut_le hc140)
                                conv => lhs; whnf
                                try simp only [dec_self, hs139]
                                conv => lhs; whnf
                                try simp only [hs139]
                                have hs139_s : ∀ q, AV.stk 1 q ((IntKind.i64.wrap ((IntKind.i64.wrap ((IntKind.i64.wrap ((IntKind.i64.wrap ((((s30).length : Nat) : Int) - 1)) + 1)) - ((y72).1))) + 1)).toNat) = AV.stk 1 q (List.length (List.take ((IntKind.i64.wrap ((IntKind.i64.wrap ((IntKind.i64.wrap ((IntKind.i64.wrap ((((s30).length : Nat) : Int) - 1)) + 1)) - ((y72).1))) + 1)).toNat) (List.set s30 (IntKind.i64.wrap ((IntKind.i64.wrap ((IntKind.i64.wrap ((((s30).length : Nat) : Int) - 1)) + 1)) - ((y72).1))).toNat y135))) := fun q => by rw [hs139_l]
                                try simp only [hs139_s]
                                conv => lhs; whnf
                                exact cq (hcont36 (IntKind.i64.wrap (s29 + 1), (List.take ((IntKind.i64.wrap ((IntKind.i64.wrap ((IntKind.i64.wrap ((IntKind.i64.wrap ((((s30).length : Nat) : Int) - 1)) + 1)) - ((y72).1))) + 1)).toNat) (List.set s30 (IntKind.i64.wrap ((IntKind.i64.wrap ((IntKind.i64.wrap ((((s30).length : Nat) : Int) - 1)) + 1)) - ((y72).1))).toNat y135))) (fun j => (bif Nat.beq j 1 then ((a32 1) + 1) else 0)) hm)
                              | c9 y73 =>
                                dsimp only at hm
                                have hk63 : call false 37 [AV.int .i64 (x40.op)] [] = some (AV.tup [AV.agg [AV.int .i64 ((y73).1), AV.func 51 [] []], AV.bool ((y73).2)], []) := (hc _ _ _).trans (ok_code_of n x40.op (.c9 y73) hy62)
                                try simp only [List.drop_zero, ls]
                                first | simp only [hk63] | rewrite [hk63]
                                try simp only [ls]
                                conv => lhs; whnf
                                refine bind_some2 hm ?_; clear hm; intro x141 hx141 hm
                                try simp only [dec_self]
                                conv => lhs; whnf
                                try simp only [ls]
                                refine bif_pos (by first | exact idx_in hx141 | exact idx_in' hx141 | exact own_in hx141 | exact own_in' hx141 | (have q := idx_in hx141; simp only [List.length_set] at q; exact q) | (have q := own_in' hx141; simp only [List.length_set, Nat.zero_add] at q ⊢; exact q)) ?_
                                conv => lhs; whnf
                                try simp only [idx_nth (f := encI) hx141, dec_self, ls]
                                conv => lhs; whnf
                                refine bind_some2 hm ?_; clear hm; intro x142 hx142 hm
                                try simp only [dec_self]
                                conv => lhs; whnf
                                try simp only [ls]
                                refine bif_pos (by first | exact idx_in hx142 | exact idx_in' hx142 | exact own_in hx142 | exact own_in' hx142 | (have q := idx_in hx142; simp only [List.length_set] at q; exact q) | (have q := own_in' hx142; simp only [List.length_set, Nat.zero_add] at q ⊢; exact q)) ?_
                                conv => lhs; whnf
                                try simp only [idx_nth (f := encI) hx142, dec_self, ls]
                                conv => lhs; whnf
                                refine bind_some2 hm ?_; clear hm; intro y143 hy143 hm
                                have hk144 : call false 51 [AV.int .i64 (x141), AV.int .i64 (x142), AV.int .i64 (v1_mod)] [] = some (AV.int .i64 (y143), []) := (hc _ _ _).trans (ok_code_of_2 n x141 x142 v1_mod y143 hy143)
                                try simp only [List.drop_zero, ls]
                                first | simp only [hk144] | rewrite [hk144]
                                try simp only [ls]
                                conv => lhs; whnf
                                refine bind_some2 hm ?_; clear hm; intro x145 hx145 hm
                                try simp only [dec_self]
                                conv => lhs; whnf
                                try simp only [ls]
                                refine bif_pos (by first | exact idx_in hx145 | exact idx_in' hx145 | exact own_in hx145 | exact own_in' hx145 | (have q := idx_in hx145; simp only [List.length_set] at q; exact q) | (have q := own_in' hx145; simp only [List.length_set, Nat.zero_add] at q ⊢; exact q)) ?_
                                conv => lhs; whnf
                                try simp only [idx_nth (f := encI) hx145, dec_self, ls]
                                conv => lhs; whnf
                                have hs146 : setNth (List.map encI s30) (IntKind.i64.wrap ((IntKind.i64.wrap ((IntKind.i64.wrap ((((s30).length : Nat) : Int) - 1)) + 1)) - ((y73).1))).toNat [AV.int .i64 (y143)] = List.map encI (List.set s30 (IntKind.i64.wrap ((IntKind.i64.wrap ((IntKind.i64.wrap ((((s30).length : Nat) : Int) - 1)) + 1)) - ((y73).1))).toNat y143) := by rw [setNth_eq, List.map_set]; rfl
                                have hs146_u : setNth (List.map encI s30) (IntKind.i64.wrap ((IntKind.i64.wrap ((IntKind.i64.wrap ((((s30).length : Nat) : Int) - 1)) + 1)) - ((y73).1))).toNat (updL (encI x145) 0 [AV.int .i64 (y143)]) = List.map encI (List.set s30 (IntKind.i64.wrap ((IntKind.i64.wrap ((IntKind.i64.wrap ((((s30).length : Nat) : Int) - 1)) + 1)) - ((y73).1))).toNat y143) := by rw [setNth_eq, List.map_set]; rfl
                                try simp only [idx_nth (f := encI) hx145, dec_self]
                                conv => lhs; whnf
                                try simp only [hs146, hs146_u, dec_self]
                                conv => lhs; whnf
                                refine chk_some2 hm ?_; clear hm; intro hc148 hm
                                try simp only [dec_self]
                                conv => lhs; whnf
                                try simp only [ls]
                                first | refine bif_pos hc148 ?_ | (refine bif_pos (by have q := hc148; simp only [List.length_set] at q; exact q) ?_)
                                have hs147 : List.take ((IntKind.i64.wrap ((IntKind.i64.wrap ((IntKind.i64.wrap ((IntKind.i64.wrap ((((s30).length : Nat) : Int) - 1)) + 1)) - ((y73).1))) + 1)).toNat) (List.map encI (List.set s30 (IntKind.i64.wrap ((IntKind.i64.wrap ((IntKind.i64.wrap ((((s30).length : Nat) : Int) - 1)) + 1)) - ((y73).1))).toNat y143)) = List.map encI (List.take ((IntKind.i64.wrap ((IntKind.i64.wrap ((IntKind.i64.wrap ((IntKind.i64.wrap ((((s30).length : Nat) : Int) - 1)) + 1)) - ((y73).1))) + 1)).toNat) (List.set s30 (IntKind.i64.wrap ((IntKind.i64.wrap ((IntKind.i64.wrap ((((s30).length : Nat) : Int) - 1)) + 1)) - ((y73).1))).toNat y143)) := by rw [List.map_take]
                                have hs147_l : List.length (List.take ((IntKind.i64.wrap ((IntKind.i64.wrap ((IntKind.i64.wrap ((IntKind.i64.wrap ((((s30).length : Nat) : Int) - 1)) + 1)) - ((y73).1))) + 1)).toNat) (List.set s30 (IntKind.i64.wrap ((IntKind.i64.wrap ((IntKind.i64.wrap ((((s30).length : Nat) : Int) - 1)) + 1)) - ((y73).1))).toNat y143)) = (IntKind.i64.wrap ((IntKind.i64.wrap ((IntKind.i64.wrap ((IntKind.i64.wrap ((((s30).length : Nat) : Int) - 1)) + 1)) - ((y73).1))) + 1)).toNat := by simp only [List.length_take]; exact Nat.min_eq_left (cut_le hc148)
                                conv => lhs; whnf
                                try simp only [dec_self, hs147]
                                conv => lhs; whnf
                                try simp only [hs147]
                                have hs147_s : ∀ q, AV.stk 1 q ((IntKind.i64.wrap ((IntKind.i64.wrap ((IntKind.i64.wrap ((IntKind.i64.wrap ((((s30).length : Nat) : Int) - 1)) + 1)) - ((y73).1))) + 1)).toNat) = AV.stk 1 q (List.length (List.take ((IntKind.i64.wrap ((IntKind.i64.wrap ((IntKind.i64.wrap ((IntKind.i64.wrap ((((s30).length : Nat) : Int) - 1)) + 1)) - ((y73).1))) + 1)).toNat) (List.set s30 (IntKind.i64.wrap ((IntKind.i64.wrap ((IntKind.i64.wrap ((((s30).length : Nat) : Int) - 1)) + 1)) - ((y73).1))).toNat y143))) := fun q => by rw [hs147_l]
                                try simp only [hs147_s]
                                conv => lhs; whnf
                                exact cq (hcont36 (IntKind.i64.wrap (s29 + 1), (List.take ((IntKind.i64.wrap ((IntKind.i64.wrap ((IntKind.i64.wrap ((IntKind.i64.wrap ((((s30).length : Nat) : Int) - 1)) + 1)) - ((y73).1))) + 1)).toNat) (List.set s30 (IntKind.i64.wrap ((IntKind.i64.wrap ((IntKind.i64.wrap ((((s30).length : Nat) : Int) - 1)) + 1)) - ((y73).1))).toNat y143))) (fun j => (bif Nat.beq j 1 then ((a32 1) + 1) else 0)) hm)
                              | c10 y74 =>
                                dsimp only at hm
                                have hk63 : call false 37 [AV.int .i64 (x40.op)] [] = some (AV.tup [AV.agg [AV.int .i64 ((y74).1), AV.func 49 [] []], AV.bool ((y74).2)], []) := (hc _ _ _).trans (ok_code_of n x40.op (.c10 y74) hy62)
                                try simp only [List.drop_zero, ls]
                                first | simp only [hk63] | rewrite [hk63]
                                try simp only [ls]
                                conv => lhs; whnf
                                refine bind_some2 hm ?_; clear hm; intro x149 hx149 hm
                                try simp only [dec_self]
                                conv => lhs; whnf
                                try simp only [ls]
                                refine bif_pos (by first | exact idx_in hx149 | exact idx_in' hx149 | exact own_in hx149 | exact own_in' hx149 | (have q := idx_in hx149; simp only [List.length_set] at q; exact q) | (have q := own_in' hx149; simp only [List.length_set, Nat.zero_add] at q ⊢; exact q)) ?_
                                conv => lhs; whnf
                                try simp only [idx_nth (f := encI) hx149, dec_self, ls]
                                conv => lhs; whnf
                                refine bind_some2 hm ?_; clear hm; intro x150 hx150 hm
                                try simp only [dec_self]
                                conv => lhs; whnf
                                try simp only [ls]
                                refine bif_pos (by first | exact idx_in hx150 | exact idx_in' hx150 | exact own_in hx150 | exact own_in' hx150 | (have q := idx_in hx150; simp only [List.length_set] at q; exact q) | (have q := own_in' hx150; simp only [List.length_set, Nat.zero_add] at q ⊢; exact q)) ?_
                                conv => lhs; whnf
                                try simp only [idx_nth (f := encI) hx150, dec_self, ls]
                                conv => lhs; whnf
                                refine bind_some2 hm ?_; clear hm; intro y151 hy151 hm
                                have hk152 : call false 49 [AV.int .i64 (x149), AV.int .i64 (x150), AV.int .i64 (v1_mod)] [] = some (AV.int .i64 (y151), []) := (hc _ _ _).trans (ok_code_of_1 n x149 x150 v1_mod y151 hy151)
                                try simp only [List.drop_zero, ls]
                                first | simp only [hk152] | rewrite [hk152]
                                try simp only [ls]
                                conv => lhs; whnf
                                refine bind_some2 hm ?_; clear hm; intro x153 hx153 hm
                                try simp only [dec_self]
                                conv => lhs; whnf
                                try simp only [ls]
                                refine bif_pos (by first | exact idx_in hx153 | exact idx_in' hx153 | exact own_in hx153 | exact own_in' hx153 | (have q := idx_in hx153; simp only [List.length_set] at q; exact q) | (have q := own_in' hx153; simp only [List.length_set, Nat.zero_add] at q ⊢; exact q)) ?_
                                conv => lhs; whnf
                                try simp only [idx_nth (f := encI) hx153, dec_self, ls]
                                conv => lhs; whnf
                                have hs154 : setNth (List.map encI s30) (IntKind.i64.wrap ((IntKind.i64.wrap ((IntKind.i64.wrap ((((s30).length : Nat) : Int) - 1)) + 1)) - ((y74).1))).toNat [AV.int .i64 (y151)] = List.map encI (List.set s30 (IntKind.i64.wrap ((IntKind.i64.wrap ((IntKind.i64.wrap ((((s30).length : Nat) : Int) - 1)) + 1)) - ((y74).1))).toNat y151) := by rw [setNth_eq, List.map_set]; rfl
                                have hs154_u : setNth (List.map encI s30) (IntKind.i64.wrap ((IntKind.i64.wrap ((IntKind.i64.wrap ((((s30).length : Nat) : Int) - 1)) + 1)) - ((y74).1))).toNat (updL (encI x153) 0 [AV.int .i64 (y151)]) = List.map encI (List.set s30 (IntKind.i64.wrap ((IntKind.i64.wrap ((IntKind.i64.wrap ((((s30).length : Nat) : Int) - 1)) + 1)) - ((y74).1))).toNat y151) := by rw [setNth_eq, List.map_set]; rfl
                                try simp only [idx_nth (f := encI) hx153, dec_self]
                                conv => lhs; whnf
                                try simp only [hs154, hs154_u, dec_self]
                                conv => lhs; whnf
                                refine chk_some2 hm ?_; clear hm; intro hc156 hm
                                try simp only [dec_self]
                                conv => lhs; whnf
                                try simp only [ls]
                                first | refine bif_pos hc156 ?_ | (refine bif_pos (by have q := hc156; simp only [List.length_set] at q; exact q) ?_)
                                have hs155 : List.take ((IntKind.i64.wrap ((IntKind.i64.wrap ((IntKind.i64.wrap ((IntKind.i64.wrap ((((s30).length : Nat) : Int) - 1)) + 1)) - ((y74).1))) + 1)).toNat) (List.map encI (List.set s30 (IntKind.i64.wrap ((IntKind.i64.wrap ((IntKind.i64.wrap ((((s30).length : Nat) : Int) - 1)) + 1)) - ((y74).1))).toNat y151)) = List.map encI (List.take ((IntKind.i64.wrap ((IntKind.i64.wrap ((IntKind.i64.wrap ((IntKind.i64.wrap ((((s30).length : Nat) : Int) - 1)) + 1)) - ((y74).1))) + 1)).toNat) (List.set s30 (IntKind.i64.wrap ((IntKind.i64.wrap ((IntKind.i64.wrap ((((s30).length : Nat) : Int) - 1)) + 1)) - ((y74).1))).toNat y151)) := by rw [List.map_take]
                                have hs155_l : List.length (List.take ((IntKind.i64.wrap ((IntKind.i64.wrap ((IntKind.i64.wrap ((IntKind.i64.wrap ((((s30).length : Nat) : Int) - 1)) + 1)) - ((y74).1))) + 1)).toNat) (List.set s30 (IntKind.i64.wrap ((IntKind.i64.wrap ((IntKind.i64.wrap ((((s30).length : Nat) : Int) - 1)) + 1)) - ((y74).1))).toNat y151)) = (IntKind.i64.wrap ((IntKind.i64.wrap ((IntKind.i64.wrap ((IntKind.i64.wrap ((((s30).length : Nat) : Int) - 1)) + 1)) - ((y74).1))) + 1)).toNat := by simp only [List.length_take]; exact Nat.min_eq_left (cut_le hc156)
                                conv => lhs; whnf
                                try simp only [dec_self, hs155]
                                conv => lhs; whnf
                                try simp only [hs155]
                                have hs155_s : ∀ q, AV.stk 1 q ((IntKind.i64.wrap ((IntKind.i64.wrap ((IntKind.i64.wrap ((IntKind.i64.wrap ((((s30).length : Nat) : Int) - 1)) + 1)) - ((y74).1))) + 1)).toNat) = AV.stk 1 q (List.length (List.take ((IntKind.i64.wrap ((IntKind.i64.wrap ((IntKind.i64.wrap ((IntKind.i64.wrap ((((s30).length : Nat) : Int) - 1)) + 1)) - ((y74).1))) + 1)).toNat) (List.set s30 (IntKind.i64.wrap ((IntKind.i64.wrap ((IntKind.i64.wrap ((((s30).length : Nat) : Int) - 1)) + 1)) - ((y74).1))).toNat y151))) := fun q => by rw [hs155_l]
                                try simp only [hs155_s]
                                conv => lhs; whnf
                                exact cq (hcont36 (IntKind.i64.wrap (s29 + 1), (List.take ((IntKind.i64.wrap ((IntKind.i64.wrap ((IntKind.i64.wrap ((IntKind.i64.wrap ((((s30).length : Nat) : Int) - 1)) + 1)) - ((y74).1))) + 1)).toNat) (List.set s30 (IntKind.i64.wrap ((IntKind.i64.wrap ((IntKind.i64.wrap ((((s30).length : Nat) : Int) - 1)) + 1)) - ((y74).1))).toNat y151))) (fun j => (bif Nat.beq j 1 then ((a32 1) + 1) else 0)) hm)
                    · simp only [hc39, ls]
                      conv => lhs; whnf
                      have hq := Option.some.inj hm; clear hm; subst hq
                      exact kq (hr37 (fun j => (bif Nat.beq j 1 then (a32 1) else 0)))
                  · cases o38 with
                    | ret v =>
                      have hq := Option.some.inj hm; clear hm; subst hq
                      rfl
                    | out t =>
                      obtain ⟨x158, rfl⟩ : ∃ x, x = t := ⟨_, rfl⟩
                      intro a157
                      dsimp only at hm
                      conv => lhs; whnf
                      refine bind_some2 hm ?_; clear hm; intro x159 hx159 hm
                      try simp only [dec_self]
                      conv => lhs; whnf
                      try simp only [ls]
                      refine bif_pos (by first | exact idx_in hx159 | exact idx_in' hx159 | exact own_in hx159 | exact own_in' hx159 | (have q := idx_in hx159; simp only [List.length_set] at q; exact q) | (have q := own_in' hx159; simp only [List.length_set, Nat.zero_add] at q ⊢; exact q)) ?_
                      conv => lhs; whnf
                      try simp only [idx_nth (f := encI) hx159, dec_self, ls]
                      conv => lhs; whnf
                      have hq := Option.some.inj hm; clear hm; subst hq
                      try simp only [ls]
                      exact fq (y := some (AV.tup [AV.int .i64 (x159), AV.bool (true)], []))
                · simp only [hc28, ls]
                  conv => lhs; whnf
                  have hq := Option.some.inj hm; clear hm; subst hq
                  try simp only [ls]
                  exact fq (y := some (AV.tup [AV.int .i64 (0), AV.bool (false)], []))
          · simp only [hc8, ls]
            conv => lhs; whnf
            have hq := Option.some.inj hm; clear hm; subst hq
            try simp only [ls]
            exact fq (y := some (AV.tup [AV.int .i64 (0), AV.bool (false)], []))
        · simp only [hc5, ls]
          conv => lhs; whnf
          have hq := Option.some.inj hm; clear hm; subst hq
          try simp only [ls]
          exact fq (y := some (AV.tup [AV.int .i64 (0), AV.bool (false)], []))
end Go.Proofs.Ytmnnkeejgkhgpaa
end

section
namespace Go.Proofs.Ytmnnkeejgkhgpaa
set_option linter.unusedVariables false
set_option linter.unusedSimpArgs false
set_option maxRecDepth 100000

set_option maxHeartbeats 4000000 in
theorem ok_ref02_Light (n : Nat) : ∀ (v0_l : (List S_api_Node)) (r : Bool), m_ref02_Light n v0_l = some r → callN Try.prog HH XT n 8 [AV.sl 5 (List.map c_api_Node (v0_l))] [] = some (AV.bool (r), []) := by
  cases n with
  | zero => intro v0_l r hm; exact absurd hm (by intro h; cases h)
  | succ n =>
    intro v0_l r hm
    rw [m_ref02_Light] at hm
    refine callN_eq' Try.func8 (by rfl) rfl rfl (Nat.le_of_ble_eq_true rfl) ?_
    intro call hc
    conv => lhs; whnf
    refine bif_or2 hm ?_ ?_ <;> clear hm <;> intro hc1 hm
    · simp only [hc1, ls]
      conv => lhs; whnf
      have hq := Option.some.inj hm; clear hm; subst hq
      try simp only [ls]
      exact fq (y := some (AV.bool (false), []))
    · simp only [hc1, ls]
      conv => lhs; whnf
      refine bind_some2 hm ?_; clear hm; intro o10 ho10 hm
      refine rounds_sim (σ := Int) (τ := Unit) (ν := Bool) 0 (fun s2 a4 => stOf 29 [(0, AV.sl 5 (List.map c_api_Node (v0_l))), (3, AV.int .i64 (s2))]) (fun s2 a4 => []) (fun _ a16 => stOf 29 []) (fun _ a16 => []) (fun v => (AV.bool (v), [])) (fun k s => ref02_Light_L0 n v0_l k s) (fun s => rfl) o10 ?_ n 0 (fun _ => 0) _ _ ho10 ?_ (by first | rfl | (simp only [ls, List.map_append, List.map_cons, List.map_nil, List.append_nil, List.length_set, length_copyL] <;> rfl)) (by first | rfl | (simp only [ls, List.map_append, List.map_cons, List.map_nil, List.append_nil, List.length_set, length_copyL] <;> rfl))
      · intro k3 ss a4 K5 cont6 hK7 hcont8 hm hr9
        obtain ⟨s2, rfl⟩ : ∃ x, x = ss := ⟨_, rfl⟩
        replace hm : ref02_Light_L0 n v0_l (k3 + 1) s2 = some o10 := hm
        rw [ref02_Light_L0] at hm
        conv => lhs; whnf
        refine bif_or2 hm ?_ ?_ <;> clear hm <;> intro hc11 hm
        · simp only [hc11, ls]
          conv => lhs; whnf
          refine bind_some2 hm ?_; clear hm; intro x12 hx12 hm
          refine bif_pos (by first | exact idx_in hx12 | exact idx_in' hx12) ?_
          simp only [idx_nth (f := c_api_Node) hx12, ls]
          conv => lhs; whnf
          refine bif_or2 hm ?_ ?_ <;> clear hm <;> intro hc13 hm
          · simp only [hc13, ls]
            conv => lhs; whnf
            have hq := Option.some.inj hm; clear hm; subst hq
            refine (hK7 _ _).trans ?_
            refine Eq.trans ?_ (Eq.symm (show _ = some _ from hr9))
            conv => lhs; whnf
            try simp only [ls]
            exact fq (y := some (AV.bool (false), []))
          · simp only [hc13, ls]
            conv => lhs; whnf
            refine bind_some2 hm ?_; clear hm; intro x14 hx14 hm
            refine bif_pos (by first | exact idx_in hx14 | exact idx_in' hx14) ?_
            simp only [idx_nth (f := c_api_Node) hx14, ls]
            conv => lhs; whnf
            refine bif_or2 hm ?_ ?_ <;> clear hm <;> intro hc15 hm
            · simp only [hc15, ls]
              conv => lhs; whnf
              have hq := Option.some.inj hm; clear hm; subst hq
              refine (hK7 _ _).trans ?_
              refine Eq.trans ?_ (Eq.symm (show _ = some _ from hr9))
              conv => lhs; whnf
              try simp only [ls]
              exact fq (y := some (AV.bool (false), []))
            · simp only [hc15, ls]
              conv => lhs; whnf
              exact cq (hcont8 (IntKind.i64.wrap (s2 + 1)) (fun _ => 0) hm)
        · simp only [hc11, ls]
          conv => lhs; whnf
          have hq := Option.some.inj hm; clear hm; subst hq
          exact kq (hr9 (fun _ => 0))
      · cases o10 with
        | ret v =>
          have hq := Option.some.inj hm; clear hm; subst hq
          rfl
        | out t =>
          intro a16
          dsimp only at hm
          conv => lhs; whnf
          have hq := Option.some.inj hm; clear hm; subst hq
          try simp only [ls]
          exact fq (y := some (AV.bool (true), []))

end Go.Proofs.Ytmnnkeejgkhgpaa
end

