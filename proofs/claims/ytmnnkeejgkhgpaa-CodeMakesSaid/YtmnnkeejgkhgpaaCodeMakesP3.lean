/- Parts of the proofs: what they lean on. Conditions: none. -/
import Derived.Test.YtmnnkeejgkhgpaaCodeMakesP2
section
namespace Go.Proofs.Ytmnnkeejgkhgpaa
set_option linter.unusedVariables false
set_option linter.unusedSimpArgs false
set_option maxRecDepth 100000

def OK_code_maker_node (n : Nat) : Prop := ∀ (v1_i : Int) (m_l : (List S_api_Node)) (m_out : (List OpS)) (m_ok : Bool) (o1 : (List (List UInt8))) (r : (Int × (List OpS) × Bool)), m_code_maker_node n v1_i m_l m_out m_ok o1 = some r → callN Try.prog HH XT n 45 [AV.ptr 0 0, AV.int .i64 (v1_i)] [Ob.var 87 [AV.sl 5 (List.map c_api_Node (m_l)), AV.func 27 [] [AV.ptr 1 0], AV.row 2 (List.length (m_out)), AV.bool (m_ok)], Ob.var 23 [AV.sl 1 (List.map encS (o1))], Ob.row 53 3 (List.map encOp (m_out))] = some (AV.int .i64 ((r).1), [Ob.var 87 [AV.sl 5 (List.map c_api_Node (m_l)), AV.func 27 [] [AV.ptr 1 0], AV.row 2 (List.length ((r).2.1)), AV.bool ((r).2.2)], Ob.var 23 [AV.sl 1 (List.map encS (o1))], Ob.row 53 3 (List.map encOp ((r).2.1))])
set_option maxHeartbeats 4000000 in
theorem st_code_maker_node (n : Nat) (ih_code_maker_node : OK_code_maker_node n) : OK_code_maker_node (n + 1) := by
  intro v1_i m_l m_out m_ok o1 r hm
  rw [m_code_maker_node] at hm
  refine callN_eq' Try.func45 (by rfl) rfl rfl (Nat.le_of_ble_eq_true rfl) ?_
  intro call hc
  conv => lhs; whnf
  refine bind_some2 hm ?_; clear hm; intro x1 hx1 hm
  refine bif_pos (by first | exact idx_in hx1 | exact idx_in' hx1) ?_
  simp only [idx_nth (f := c_api_Node) hx1, ls]
  conv => lhs; whnf
  refine bind_some2 hm ?_; clear hm; intro y2 hy2 hm
  cases y2 with
  | c0 y4 =>
    dsimp only at hm
    have hk3 : call false 37 [AV.int .i64 (x1.f_Op)] [] = some (AV.tup [AV.agg [AV.int .i64 ((y4).1), AV.nilf], AV.bool ((y4).2)], []) := (hc _ _ _).trans (ok_code_of n x1.f_Op (.c0 y4) hy2)
    try simp only [List.drop_zero, ls]
    first | simp only [hk3] | rewrite [hk3]
    try simp only [ls]
    conv => lhs; whnf
    refine bif_or2 hm ?_ ?_ <;> clear hm <;> intro hc15 hm
    · simp only [hc15, ls]
      conv => lhs; whnf
      refine bind_some2 hm ?_; clear hm; intro o27 ho27 hm
      refine rounds_sim (σ := (Int × Int × Bool × (List OpS))) (τ := (Int × Bool × (List OpS))) (ν := (Int × (List OpS) × Bool)) 0 (fun (s16, s17, s18, s19) a21 => stOf 80 [(0, AV.ptr 0 0), (5, AV.ptr 3 0), (10, AV.int .i64 (s16)), (60, AV.int .i64 ((y4).1)), (61, AV.int .i64 (s17))]) (fun (s16, s17, s18, s19) a21 => [Ob.var 87 [AV.sl 5 (List.map c_api_Node (m_l)), AV.func 27 [] [AV.ptr 1 0], AV.row 2 (List.length (s19)), AV.bool (s18)], Ob.var 23 [AV.sl 1 (List.map encS (o1))], Ob.row 53 3 (List.map encOp (s19)), Ob.var 57 [AV.int .i64 (x1.f_Op), AV.int .i64 (x1.f_N), AV.str (x1.f_Name), AV.str (x1.f_In), AV.int .i64 (x1.f_At)], Ob.var 74 [AV.int .i64 ((y4).1), AV.nilf]]) (fun (x32, x33, x34) a31 => stOf 80 [(0, AV.ptr 0 0), (5, AV.ptr 3 0), (10, AV.int .i64 (x32))]) (fun (x32, x33, x34) a31 => [Ob.var 87 [AV.sl 5 (List.map c_api_Node (m_l)), AV.func 27 [] [AV.ptr 1 0], AV.row 2 (List.length (x34)), AV.bool (x33)], Ob.var 23 [AV.sl 1 (List.map encS (o1))], Ob.row 53 3 (List.map encOp (x34)), Ob.var 57 [AV.int .i64 (x1.f_Op), AV.int .i64 (x1.f_N), AV.str (x1.f_Name), AV.str (x1.f_In), AV.int .i64 (x1.f_At)], Ob.var 74 [AV.int .i64 ((y4).1), AV.nilf]]) (fun v => (AV.int .i64 ((v).1), [Ob.var 87 [AV.sl 5 (List.map c_api_Node (m_l)), AV.func 27 [] [AV.ptr 1 0], AV.row 2 (List.length ((v).2.1)), AV.bool ((v).2.2)], Ob.var 23 [AV.sl 1 (List.map encS (o1))], Ob.row 53 3 (List.map encOp ((v).2.1))])) (fun k s => code_maker_node_L0 n (m_code_maker_node n) m_l o1 y4 k ((s).1) ((s).2.1) ((s).2.2.1) ((s).2.2.2)) (fun s => rfl) o27 ?_ n (IntKind.i64.wrap (v1_i + 1), 0, m_ok, m_out) (fun _ => 0) _ _ ho27 ?_ (by first | rfl | (simp only [ls, List.map_append, List.map_cons, List.map_nil, List.append_nil, List.length_set, length_copyL] <;> rfl)) (by first | rfl | (simp only [ls, List.map_append, List.map_cons, List.map_nil, List.append_nil, List.length_set, length_copyL] <;> rfl))
      · intro k20 ss a21 K22 cont23 hK24 hcont25 hm hr26
        obtain ⟨s16, s17, s18, s19⟩ := ss
        replace hm : code_maker_node_L0 n (m_code_maker_node n) m_l o1 y4 (k20 + 1) s16 s17 s18 s19 = some o27 := hm
        rw [code_maker_node_L0] at hm
        conv => lhs; whnf
        refine bif_or2 hm ?_ ?_ <;> clear hm <;> intro hc28 hm
        · simp only [hc28, ls]
          conv => lhs; whnf
          refine bind_some2 hm ?_; clear hm; intro y29 hy29 hm
          have hk30 : call false 45 [AV.ptr 0 0, AV.int .i64 (s16)] [Ob.var 87 [AV.sl 5 (List.map c_api_Node (m_l)), AV.func 27 [] [AV.ptr 1 0], AV.row 2 (List.length (s19)), AV.bool (s18)], Ob.var 23 [AV.sl 1 (List.map encS (o1))], Ob.row 53 3 (List.map encOp (s19))] = some (AV.int .i64 ((y29).1), [Ob.var 87 [AV.sl 5 (List.map c_api_Node (m_l)), AV.func 27 [] [AV.ptr 1 0], AV.row 2 (List.length ((y29).2.1)), AV.bool ((y29).2.2)], Ob.var 23 [AV.sl 1 (List.map encS (o1))], Ob.row 53 3 (List.map encOp ((y29).2.1))]) := (hc _ _ _).trans (ih_code_maker_node s16 m_l s19 s18 o1 y29 hy29)
          try simp only [List.drop_zero, ls]
          first | simp only [hk30] | rewrite [hk30]
          try simp only [ls]
          conv => lhs; whnf
          exact cq (hcont25 ((y29).1, IntKind.i64.wrap (s17 + 1), (y29).2.2, (y29).2.1) (fun _ => 0) hm)
        · simp only [hc28, ls]
          conv => lhs; whnf
          have hq := Option.some.inj hm; clear hm; subst hq
          exact kq (hr26 (fun _ => 0))
      · cases o27 with
        | ret v =>
          have hq := Option.some.inj hm; clear hm; subst hq
          rfl
        | out t =>
          obtain ⟨x32, x33, x34⟩ := t
          intro a31
          dsimp only at hm
          conv => lhs; whnf
          refine chk_some2 hm ?_; clear hm; intro hc37 hm
          refine bif_pos (app_row hc37 (by first | rfl | simp only [List.length_map]) (by first | rfl | simp only [List.length_map]) (by first | rfl | simp only [List.length_map, take_map_len]) (by kernel_rfl)) ?_
          try simp only [lt]
          have hp35 : (List.map encOp (x34) : List (List AV)) ++ [[AV.int .i64 (x1.f_Op), AV.int .i64 (0), AV.int .i64 (0)]] = List.map encOp (x34 ++ ([(⟨x1.f_Op, 0, 0⟩ : OpS)] : List OpS)) := by first | rfl | (rw [List.map_append]; rfl) | (rw [List.map_append]; done) | (simp only [List.map_append, List.map_cons, List.map_nil, List.nil_append, encOp] <;> rfl)
          have hl36 : List.length (List.map encOp (x34) : List (List AV)) + List.length ([[AV.int .i64 (x1.f_Op), AV.int .i64 (0), AV.int .i64 (0)]] : List (List AV)) = List.length (x34 ++ ([(⟨x1.f_Op, 0, 0⟩ : OpS)] : List OpS)) := by simp only [List.length_map, List.length_append] <;> rfl
          have hl36_b : List.length x34 + List.length ([[AV.int .i64 (x1.f_Op), AV.int .i64 (0), AV.int .i64 (0)]] : List (List AV)) = List.length (x34 ++ ([(⟨x1.f_Op, 0, 0⟩ : OpS)] : List OpS)) := by simp only [List.length_map, List.length_append] <;> rfl
          have hl36_c : List.length x34 + List.length ([(⟨x1.f_Op, 0, 0⟩ : OpS)] : List OpS) = List.length (x34 ++ ([(⟨x1.f_Op, 0, 0⟩ : OpS)] : List OpS)) := by simp only [List.length_map, List.length_append] <;> rfl
          first | simp only [hp35, hl36] | (simp only [List.length_map, take_map_len]; simp only [hp35, hl36_b, hl36_c])
          try simp only [ls]
          conv => lhs; whnf
          have hq := Option.some.inj hm; clear hm; subst hq
          try simp only [ls]
          exact fq (y := some (AV.int .i64 (x32), [Ob.var 87 [AV.sl 5 (List.map c_api_Node (m_l)), AV.func 27 [] [AV.ptr 1 0], AV.row 2 (List.length ((x34 ++ ([(⟨x1.f_Op, 0, 0⟩ : OpS)] : List OpS)))), AV.bool (x33)], Ob.var 23 [AV.sl 1 (List.map encS (o1))], Ob.row 53 3 (List.map encOp (x34 ++ ([(⟨x1.f_Op, 0, 0⟩ : OpS)] : List OpS)))]))
    · simp only [hc15, ls]
      conv => lhs; whnf
      refine bind_some2 hm ?_; clear hm; intro y39 hy39 hm
      have hk40 : call false 27 [AV.agg [AV.int .i64 (x1.f_Op), AV.int .i64 (x1.f_N), AV.str (x1.f_Name), AV.str (x1.f_In), AV.int .i64 (x1.f_At)], AV.ptr 0 0] [Ob.var 23 [AV.sl 1 (List.map encS (o1))]] = some (AV.tup [AV.agg [AV.int .i64 ((y39).1.op), AV.int .i64 ((y39).1.n), AV.int .i64 ((y39).1.t)], AV.bool ((y39).2)], [Ob.var 23 [AV.sl 1 (List.map encS (o1))]]) := (hc _ _ _).trans (ok_code_Thread_1 n x1 o1 y39 hy39)
      try simp only [List.drop_zero, ls]
      first | simp only [hk40] | rewrite [hk40]
      try simp only [ls]
      conv => lhs; whnf
      refine bif_or2 hm ?_ ?_ <;> clear hm <;> intro hc41 hm
      · simp only [hc41, ls]
        conv => lhs; whnf
        refine chk_some2 hm ?_; clear hm; intro hc44 hm
        refine bif_pos (app_row hc44 (by first | rfl | simp only [List.length_map]) (by first | rfl | simp only [List.length_map]) (by first | rfl | simp only [List.length_map, take_map_len]) (by kernel_rfl)) ?_
        try simp only [lt]
        have hp42 : (List.map encOp (m_out) : List (List AV)) ++ [[AV.int .i64 ((y39).1.op), AV.int .i64 ((y39).1.n), AV.int .i64 ((y39).1.t)]] = List.map encOp (m_out ++ ([(y39).1] : List OpS)) := by first | rfl | (rw [List.map_append]; rfl) | (rw [List.map_append]; done) | (simp only [List.map_append, List.map_cons, List.map_nil, List.nil_append, encOp] <;> rfl)
        have hl43 : List.length (List.map encOp (m_out) : List (List AV)) + List.length ([[AV.int .i64 ((y39).1.op), AV.int .i64 ((y39).1.n), AV.int .i64 ((y39).1.t)]] : List (List AV)) = List.length (m_out ++ ([(y39).1] : List OpS)) := by simp only [List.length_map, List.length_append] <;> rfl
        have hl43_b : List.length m_out + List.length ([[AV.int .i64 ((y39).1.op), AV.int .i64 ((y39).1.n), AV.int .i64 ((y39).1.t)]] : List (List AV)) = List.length (m_out ++ ([(y39).1] : List OpS)) := by simp only [List.length_map, List.length_append] <;> rfl
        have hl43_c : List.length m_out + List.length ([(y39).1] : List OpS) = List.length (m_out ++ ([(y39).1] : List OpS)) := by simp only [List.length_map, List.length_append] <;> rfl
        first | simp only [hp42, hl43] | (simp only [List.length_map, take_map_len]; simp only [hp42, hl43_b, hl43_c])
        try simp only [ls]
        conv => lhs; whnf
        have hq := Option.some.inj hm; clear hm; subst hq
        try simp only [ls]
        exact fq (y := some (AV.int .i64 (IntKind.i64.wrap (v1_i + 1)), [Ob.var 87 [AV.sl 5 (List.map c_api_Node (m_l)), AV.func 27 [] [AV.ptr 1 0], AV.row 2 (List.length ((m_out ++ ([(y39).1] : List OpS)))), AV.bool ((y39).2)], Ob.var 23 [AV.sl 1 (List.map encS (o1))], Ob.row 53 3 (List.map encOp (m_out ++ ([(y39).1] : List OpS)))]))
      · simp only [hc41, ls]
        conv => lhs; whnf
        refine chk_some2 hm ?_; clear hm; intro hc47 hm
        refine bif_pos (app_row hc47 (by first | rfl | simp only [List.length_map]) (by first | rfl | simp only [List.length_map]) (by first | rfl | simp only [List.length_map, take_map_len]) (by kernel_rfl)) ?_
        try simp only [lt]
        have hp45 : (List.map encOp (m_out) : List (List AV)) ++ [[AV.int .i64 ((y39).1.op), AV.int .i64 ((y39).1.n), AV.int .i64 ((y39).1.t)]] = List.map encOp (m_out ++ ([(y39).1] : List OpS)) := by first | rfl | (rw [List.map_append]; rfl) | (rw [List.map_append]; done) | (simp only [List.map_append, List.map_cons, List.map_nil, List.nil_append, encOp] <;> rfl)
        have hl46 : List.length (List.map encOp (m_out) : List (List AV)) + List.length ([[AV.int .i64 ((y39).1.op), AV.int .i64 ((y39).1.n), AV.int .i64 ((y39).1.t)]] : List (List AV)) = List.length (m_out ++ ([(y39).1] : List OpS)) := by simp only [List.length_map, List.length_append] <;> rfl
        have hl46_b : List.length m_out + List.length ([[AV.int .i64 ((y39).1.op), AV.int .i64 ((y39).1.n), AV.int .i64 ((y39).1.t)]] : List (List AV)) = List.length (m_out ++ ([(y39).1] : List OpS)) := by simp only [List.length_map, List.length_append] <;> rfl
        have hl46_c : List.length m_out + List.length ([(y39).1] : List OpS) = List.length (m_out ++ ([(y39).1] : List OpS)) := by simp only [List.length_map, List.length_append] <;> rfl
        first | simp only [hp45, hl46] | (simp only [List.length_map, take_map_len]; simp only [hp45, hl46_b, hl46_c])
        try simp only [ls]
        conv => lhs; whnf
        have hq := Option.some.inj hm; clear hm; subst hq
        try simp only [ls]
        exact fq (y := some (AV.int .i64 (IntKind.i64.wrap (v1_i + 1)), [Ob.var 87 [AV.sl 5 (List.map c_api_Node (m_l)), AV.func 27 [] [AV.ptr 1 0], AV.row 2 (List.length ((m_out ++ ([(y39).1] : List OpS)))), AV.bool (false)], Ob.var 23 [AV.sl 1 (List.map encS (o1))], Ob.row 53 3 (List.map encOp (m_out ++ ([(y39).1] : List OpS)))]))
  | c1 y5 =>
    dsimp only at hm
    have hk3 : call false 37 [AV.int .i64 (x1.f_Op)] [] = some (AV.tup [AV.agg [AV.int .i64 ((y5).1), AV.func 59 [] []], AV.bool ((y5).2)], []) := (hc _ _ _).trans (ok_code_of n x1.f_Op (.c1 y5) hy2)
    try simp only [List.drop_zero, ls]
    first | simp only [hk3] | rewrite [hk3]
    try simp only [ls]
    conv => lhs; whnf
    refine bif_or2 hm ?_ ?_ <;> clear hm <;> intro hc48 hm
    · simp only [hc48, ls]
      conv => lhs; whnf
      refine bind_some2 hm ?_; clear hm; intro o60 ho60 hm
      refine rounds_sim (σ := (Int × Int × Bool × (List OpS))) (τ := (Int × Bool × (List OpS))) (ν := (Int × (List OpS) × Bool)) 0 (fun (s49, s50, s51, s52) a54 => stOf 80 [(0, AV.ptr 0 0), (5, AV.ptr 3 0), (10, AV.int .i64 (s49)), (60, AV.int .i64 ((y5).1)), (61, AV.int .i64 (s50))]) (fun (s49, s50, s51, s52) a54 => [Ob.var 87 [AV.sl 5 (List.map c_api_Node (m_l)), AV.func 27 [] [AV.ptr 1 0], AV.row 2 (List.length (s52)), AV.bool (s51)], Ob.var 23 [AV.sl 1 (List.map encS (o1))], Ob.row 53 3 (List.map encOp (s52)), Ob.var 57 [AV.int .i64 (x1.f_Op), AV.int .i64 (x1.f_N), AV.str (x1.f_Name), AV.str (x1.f_In), AV.int .i64 (x1.f_At)], Ob.var 74 [AV.int .i64 ((y5).1), AV.func 59 [] []]]) (fun (x65, x66, x67) a64 => stOf 80 [(0, AV.ptr 0 0), (5, AV.ptr 3 0), (10, AV.int .i64 (x65))]) (fun (x65, x66, x67) a64 => [Ob.var 87 [AV.sl 5 (List.map c_api_Node (m_l)), AV.func 27 [] [AV.ptr 1 0], AV.row 2 (List.length (x67)), AV.bool (x66)], Ob.var 23 [AV.sl 1 (List.map encS (o1))], Ob.row 53 3 (List.map encOp (x67)), Ob.var 57 [AV.int .i64 (x1.f_Op), AV.int .i64 (x1.f_N), AV.str (x1.f_Name), AV.str (x1.f_In), AV.int .i64 (x1.f_At)], Ob.var 74 [AV.int .i64 ((y5).1), AV.func 59 [] []]]) (fun v => (AV.int .i64 ((v).1), [Ob.var 87 [AV.sl 5 (List.map c_api_Node (m_l)), AV.func 27 [] [AV.ptr 1 0], AV.row 2 (List.length ((v).2.1)), AV.bool ((v).2.2)], Ob.var 23 [AV.sl 1 (List.map encS (o1))], Ob.row 53 3 (List.map encOp ((v).2.1))])) (fun k s => code_maker_node_L1 n (m_code_maker_node n) m_l o1 y5 k ((s).1) ((s).2.1) ((s).2.2.1) ((s).2.2.2)) (fun s => rfl) o60 ?_ n (IntKind.i64.wrap (v1_i + 1), 0, m_ok, m_out) (fun _ => 0) _ _ ho60 ?_ (by first | rfl | (simp only [ls, List.map_append, List.map_cons, List.map_nil, List.append_nil, List.length_set, length_copyL] <;> rfl)) (by first | rfl | (simp only [ls, List.map_append, List.map_cons, List.map_nil, List.append_nil, List.length_set, length_copyL] <;> rfl))
      · intro k53 ss a54 K55 cont56 hK57 hcont58 hm hr59
        obtain ⟨s49, s50, s51, s52⟩ := ss
        replace hm : code_maker_node_L1 n (m_code_maker_node n) m_l o1 y5 (k53 + 1) s49 s50 s51 s52 = some o60 := hm
        rw [code_maker_node_L1] at hm
        conv => lhs; whnf
        refine bif_or2 hm ?_ ?_ <;> clear hm <;> intro hc61 hm
        · simp only [hc61, ls]
          conv => lhs; whnf
          refine bind_some2 hm ?_; clear hm; intro y62 hy62 hm
          have hk63 : call false 45 [AV.ptr 0 0, AV.int .i64 (s49)] [Ob.var 87 [AV.sl 5 (List.map c_api_Node (m_l)), AV.func 27 [] [AV.ptr 1 0], AV.row 2 (List.length (s52)), AV.bool (s51)], Ob.var 23 [AV.sl 1 (List.map encS (o1))], Ob.row 53 3 (List.map encOp (s52))] = some (AV.int .i64 ((y62).1), [Ob.var 87 [AV.sl 5 (List.map c_api_Node (m_l)), AV.func 27 [] [AV.ptr 1 0], AV.row 2 (List.length ((y62).2.1)), AV.bool ((y62).2.2)], Ob.var 23 [AV.sl 1 (List.map encS (o1))], Ob.row 53 3 (List.map encOp ((y62).2.1))]) := (hc _ _ _).trans (ih_code_maker_node s49 m_l s52 s51 o1 y62 hy62)
          try simp only [List.drop_zero, ls]
          first | simp only [hk63] | rewrite [hk63]
          try simp only [ls]
          conv => lhs; whnf
          exact cq (hcont58 ((y62).1, IntKind.i64.wrap (s50 + 1), (y62).2.2, (y62).2.1) (fun _ => 0) hm)
        · simp only [hc61, ls]
          conv => lhs; whnf
          have hq := Option.some.inj hm; clear hm; subst hq
          exact kq (hr59 (fun _ => 0))
      · cases o60 with
        | ret v =>
          have hq := Option.some.inj hm; clear hm; subst hq
          rfl
        | out t =>
          obtain ⟨x65, x66, x67⟩ := t
          intro a64
          dsimp only at hm
          conv => lhs; whnf
          refine chk_some2 hm ?_; clear hm; intro hc70 hm
          refine bif_pos (app_row hc70 (by first | rfl | simp only [List.length_map]) (by first | rfl | simp only [List.length_map]) (by first | rfl | simp only [List.length_map, take_map_len]) (by kernel_rfl)) ?_
          try simp only [lt]
          have hp68 : (List.map encOp (x67) : List (List AV)) ++ [[AV.int .i64 (x1.f_Op), AV.int .i64 (0), AV.int .i64 (0)]] = List.map encOp (x67 ++ ([(⟨x1.f_Op, 0, 0⟩ : OpS)] : List OpS)) := by first | rfl | (rw [List.map_append]; rfl) | (rw [List.map_append]; done) | (simp only [List.map_append, List.map_cons, List.map_nil, List.nil_append, encOp] <;> rfl)
          have hl69 : List.length (List.map encOp (x67) : List (List AV)) + List.length ([[AV.int .i64 (x1.f_Op), AV.int .i64 (0), AV.int .i64 (0)]] : List (List AV)) = List.length (x67 ++ ([(⟨x1.f_Op, 0, 0⟩ : OpS)] : List OpS)) := by simp only [List.length_map, List.length_append] <;> rfl
          have hl69_b : List.length x67 + List.length ([[AV.int .i64 (x1.f_Op), AV.int .i64 (0), AV.int .i64 (0)]] : List (List AV)) = List.length (x67 ++ ([(⟨x1.f_Op, 0, 0⟩ : OpS)] : List OpS)) := by simp only [List.length_map, List.length_append] <;> rfl
          have hl69_c : List.length x67 + List.length ([(⟨x1.f_Op, 0, 0⟩ : OpS)] : List OpS) = List.length (x67 ++ ([(⟨x1.f_Op, 0, 0⟩ : OpS)] : List OpS)) := by simp only [List.length_map, List.length_append] <;> rfl
          first | simp only [hp68, hl69] | (simp only [List.length_map, take_map_len]; simp only [hp68, hl69_b, hl69_c])
          try simp only [ls]
          conv => lhs; whnf
          have hq := Option.some.inj hm; clear hm; subst hq
          try simp only [ls]
          exact fq (y := some (AV.int .i64 (x65), [Ob.var 87 [AV.sl 5 (List.map c_api_Node (m_l)), AV.func 27 [] [AV.ptr 1 0], AV.row 2 (List.length ((x67 ++ ([(⟨x1.f_Op, 0, 0⟩ : OpS)] : List OpS)))), AV.bool (x66)], Ob.var 23 [AV.sl 1 (List.map encS (o1))], Ob.row 53 3 (List.map encOp (x67 ++ ([(⟨x1.f_Op, 0, 0⟩ : OpS)] : List OpS)))]))
    · simp only [hc48, ls]
      conv => lhs; whnf
      refine bind_some2 hm ?_; clear hm; intro y72 hy72 hm
      have hk73 : call false 27 [AV.agg [AV.int .i64 (x1.f_Op), AV.int .i64 (x1.f_N), AV.str (x1.f_Name), AV.str (x1.f_In), AV.int .i64 (x1.f_At)], AV.ptr 0 0] [Ob.var 23 [AV.sl 1 (List.map encS (o1))]] = some (AV.tup [AV.agg [AV.int .i64 ((y72).1.op), AV.int .i64 ((y72).1.n), AV.int .i64 ((y72).1.t)], AV.bool ((y72).2)], [Ob.var 23 [AV.sl 1 (List.map encS (o1))]]) := (hc _ _ _).trans (ok_code_Thread_1 n x1 o1 y72 hy72)
      try simp only [List.drop_zero, ls]
      first | simp only [hk73] | rewrite [hk73]
      try simp only [ls]
      conv => lhs; whnf
      refine bif_or2 hm ?_ ?_ <;> clear hm <;> intro hc74 hm
      · simp only [hc74, ls]
        conv => lhs; whnf
        refine chk_some2 hm ?_; clear hm; intro hc77 hm
        refine bif_pos (app_row hc77 (by first | rfl | simp only [List.length_map]) (by first | rfl | simp only [List.length_map]) (by first | rfl | simp only [List.length_map, take_map_len]) (by kernel_rfl)) ?_
        try simp only [lt]
        have hp75 : (List.map encOp (m_out) : List (List AV)) ++ [[AV.int .i64 ((y72).1.op), AV.int .i64 ((y72).1.n), AV.int .i64 ((y72).1.t)]] = List.map encOp (m_out ++ ([(y72).1] : List OpS)) := by first | rfl | (rw [List.map_append]; rfl) | (rw [List.map_append]; done) | (simp only [List.map_append, List.map_cons, List.map_nil, List.nil_append, encOp] <;> rfl)
        have hl76 : List.length (List.map encOp (m_out) : List (List AV)) + List.length ([[AV.int .i64 ((y72).1.op), AV.int .i64 ((y72).1.n), AV.int .i64 ((y72).1.t)]] : List (List AV)) = List.length (m_out ++ ([(y72).1] : List OpS)) := by simp only [List.length_map, List.length_append] <;> rfl
        have hl76_b : List.length m_out + List.length ([[AV.int .i64 ((y72).1.op), AV.int .i64 ((y72).1.n), AV.int .i64 ((y72).1.t)]] : List (List AV)) = List.length (m_out ++ ([(y72).1] : List OpS)) := by simp only [List.length_map, List.length_append] <;> rfl
        have hl76_c : List.length m_out + List.length ([(y72).1] : List OpS) = List.length (m_out ++ ([(y72).1] : List OpS)) := by simp only [List.length_map, List.length_append] <;> rfl
        first | simp only [hp75, hl76] | (simp only [List.length_map, take_map_len]; simp only [hp75, hl76_b, hl76_c])
        try simp only [ls]
        conv => lhs; whnf
        have hq := Option.some.inj hm; clear hm; subst hq
        try simp only [ls]
        exact fq (y := some (AV.int .i64 (IntKind.i64.wrap (v1_i + 1)), [Ob.var 87 [AV.sl 5 (List.map c_api_Node (m_l)), AV.func 27 [] [AV.ptr 1 0], AV.row 2 (List.length ((m_out ++ ([(y72).1] : List OpS)))), AV.bool ((y72).2)], Ob.var 23 [AV.sl 1 (List.map encS (o1))], Ob.row 53 3 (List.map encOp (m_out ++ ([(y72).1] : List OpS)))]))
      · simp only [hc74, ls]
        conv => lhs; whnf
        refine chk_some2 hm ?_; clear hm; intro hc80 hm
        refine bif_pos (app_row hc80 (by first | rfl | simp only [List.length_map]) (by first | rfl | simp only [List.length_map]) (by first | rfl | simp only [List.length_map, take_map_len]) (by kernel_rfl)) ?_
        try simp only [lt]
        have hp78 : (List.map encOp (m_out) : List (List AV)) ++ [[AV.int .i64 ((y72).1.op), AV.int .i64 ((y72).1.n), AV.int .i64 ((y72).1.t)]] = List.map encOp (m_out ++ ([(y72).1] : List OpS)) := by first | rfl | (rw [List.map_append]; rfl) | (rw [List.map_append]; done) | (simp only [List.map_append, List.map_cons, List.map_nil, List.nil_append, encOp] <;> rfl)
        have hl79 : List.length (List.map encOp (m_out) : List (List AV)) + List.length ([[AV.int .i64 ((y72).1.op), AV.int .i64 ((y72).1.n), AV.int .i64 ((y72).1.t)]] : List (List AV)) = List.length (m_out ++ ([(y72).1] : List OpS)) := by simp only [List.length_map, List.length_append] <;> rfl
        have hl79_b : List.length m_out + List.length ([[AV.int .i64 ((y72).1.op), AV.int .i64 ((y72).1.n), AV.int .i64 ((y72).1.t)]] : List (List AV)) = List.length (m_out ++ ([(y72).1] : List OpS)) := by simp only [List.length_map, List.length_append] <;> rfl
        have hl79_c : List.length m_out + List.length ([(y72).1] : List OpS) = List.length (m_out ++ ([(y72).1] : List OpS)) := by simp only [List.length_map, List.length_append] <;> rfl
        first | simp only [hp78, hl79] | (simp only [List.length_map, take_map_len]; simp only [hp78, hl79_b, hl79_c])
        try simp only [ls]
        conv => lhs; whnf
        have hq := Option.some.inj hm; clear hm; subst hq
        try simp only [ls]
        exact fq (y := some (AV.int .i64 (IntKind.i64.wrap (v1_i + 1)), [Ob.var 87 [AV.sl 5 (List.map c_api_Node (m_l)), AV.func 27 [] [AV.ptr 1 0], AV.row 2 (List.length ((m_out ++ ([(y72).1] : List OpS)))), AV.bool (false)], Ob.var 23 [AV.sl 1 (List.map encS (o1))], Ob.row 53 3 (List.map encOp (m_out ++ ([(y72).1] : List OpS)))]))
  | c2 y6 =>
    dsimp only at hm
    have hk3 : call false 37 [AV.int .i64 (x1.f_Op)] [] = some (AV.tup [AV.agg [AV.int .i64 ((y6).1), AV.func 58 [] []], AV.bool ((y6).2)], []) := (hc _ _ _).trans (ok_code_of n x1.f_Op (.c2 y6) hy2)
    try simp only [List.drop_zero, ls]
    first | simp only [hk3] | rewrite [hk3]
    try simp only [ls]
    conv => lhs; whnf
    refine bif_or2 hm ?_ ?_ <;> clear hm <;> intro hc81 hm
    · simp only [hc81, ls]
      conv => lhs; whnf
      refine bind_some2 hm ?_; clear hm; intro o93 ho93 hm
      refine rounds_sim (σ := (Int × Int × Bool × (List OpS))) (τ := (Int × Bool × (List OpS))) (ν := (Int × (List OpS) × Bool)) 0 (fun (s82, s83, s84, s85) a87 => stOf 80 [(0, AV.ptr 0 0), (5, AV.ptr 3 0), (10, AV.int .i64 (s82)), (60, AV.int .i64 ((y6).1)), (61, AV.int .i64 (s83))]) (fun (s82, s83, s84, s85) a87 => [Ob.var 87 [AV.sl 5 (List.map c_api_Node (m_l)), AV.func 27 [] [AV.ptr 1 0], AV.row 2 (List.length (s85)), AV.bool (s84)], Ob.var 23 [AV.sl 1 (List.map encS (o1))], Ob.row 53 3 (List.map encOp (s85)), Ob.var 57 [AV.int .i64 (x1.f_Op), AV.int .i64 (x1.f_N), AV.str (x1.f_Name), AV.str (x1.f_In), AV.int .i64 (x1.f_At)], Ob.var 74 [AV.int .i64 ((y6).1), AV.func 58 [] []]]) (fun (x98, x99, x100) a97 => stOf 80 [(0, AV.ptr 0 0), (5, AV.ptr 3 0), (10, AV.int .i64 (x98))]) (fun (x98, x99, x100) a97 => [Ob.var 87 [AV.sl 5 (List.map c_api_Node (m_l)), AV.func 27 [] [AV.ptr 1 0], AV.row 2 (List.length (x100)), AV.bool (x99)], Ob.var 23 [AV.sl 1 (List.map encS (o1))], Ob.row 53 3 (List.map encOp (x100)), Ob.var 57 [AV.int .i64 (x1.f_Op), AV.int .i64 (x1.f_N), AV.str (x1.f_Name), AV.str (x1.f_In), AV.int .i64 (x1.f_At)], Ob.var 74 [AV.int .i64 ((y6).1), AV.func 58 [] []]]) (fun v => (AV.int .i64 ((v).1), [Ob.var 87 [AV.sl 5 (List.map c_api_Node (m_l)), AV.func 27 [] [AV.ptr 1 0], AV.row 2 (List.length ((v).2.1)), AV.bool ((v).2.2)], Ob.var 23 [AV.sl 1 (List.map encS (o1))], Ob.row 53 3 (List.map encOp ((v).2.1))])) (fun k s => code_maker_node_L2 n (m_code_maker_node n) m_l o1 y6 k ((s).1) ((s).2.1) ((s).2.2.1) ((s).2.2.2)) (fun s => rfl) o93 ?_ n (IntKind.i64.wrap (v1_i + 1), 0, m_ok, m_out) (fun _ => 0) _ _ ho93 ?_ (by first | rfl | (simp only [ls, List.map_append, List.map_cons, List.map_nil, List.append_nil, List.length_set, length_copyL] <;> rfl)) (by first | rfl | (simp only [ls, List.map_append, List.map_cons, List.map_nil, List.append_nil, List.length_set, length_copyL] <;> rfl))
      · intro k86 ss a87 K88 cont89 hK90 hcont91 hm hr92
        obtain ⟨s82, s83, s84, s85⟩ := ss
        replace hm : code_maker_node_L2 n (m_code_maker_node n) m_l o1 y6 (k86 + 1) s82 s83 s84 s85 = some o93 := hm
        rw [code_maker_node_L2] at hm
        conv => lhs; whnf
        refine bif_or2 hm ?_ ?_ <;> clear hm <;> intro hc94 hm
        · simp only [hc94, ls]
          conv => lhs; whnf
          refine bind_some2 hm ?_; clear hm; intro y95 hy95 hm
          have hk96 : call false 45 [AV.ptr 0 0, AV.int .i64 (s82)] [Ob.var 87 [AV.sl 5 (List.map c_api_Node (m_l)), AV.func 27 [] [AV.ptr 1 0], AV.row 2 (List.length (s85)), AV.bool (s84)], Ob.var 23 [AV.sl 1 (List.map encS (o1))], Ob.row 53 3 (List.map encOp (s85))] = some (AV.int .i64 ((y95).1), [Ob.var 87 [AV.sl 5 (List.map c_api_Node (m_l)), AV.func 27 [] [AV.ptr 1 0], AV.row 2 (List.length ((y95).2.1)), AV.bool ((y95).2.2)], Ob.var 23 [AV.sl 1 (List.map encS (o1))], Ob.row 53 3 (List.map encOp ((y95).2.1))]) := (hc _ _ _).trans (ih_code_maker_node s82 m_l s85 s84 o1 y95 hy95)
          try simp only [List.drop_zero, ls]
          first | simp only [hk96] | rewrite [hk96]
          try simp only [ls]
          conv => lhs; whnf
          exact cq (hcont91 ((y95).1, IntKind.i64.wrap (s83 + 1), (y95).2.2, (y95).2.1) (fun _ => 0) hm)
        · simp only [hc94, ls]
          conv => lhs; whnf
          have hq := Option.some.inj hm; clear hm; subst hq
          exact kq (hr92 (fun _ => 0))
      · cases o93 with
        | ret v =>
          have hq := Option.some.inj hm; clear hm; subst hq
          rfl
        | out t =>
          obtain ⟨x98, x99, x100⟩ := t
          intro a97
          dsimp only at hm
          conv => lhs; whnf
          refine chk_some2 hm ?_; clear hm; intro hc103 hm
          refine bif_pos (app_row hc103 (by first | rfl | simp only [List.length_map]) (by first | rfl | simp only [List.length_map]) (by first | rfl | simp only [List.length_map, take_map_len]) (by kernel_rfl)) ?_
          try simp only [lt]
          have hp101 : (List.map encOp (x100) : List (List AV)) ++ [[AV.int .i64 (x1.f_Op), AV.int .i64 (0), AV.int .i64 (0)]] = List.map encOp (x100 ++ ([(⟨x1.f_Op, 0, 0⟩ : OpS)] : List OpS)) := by first | rfl | (rw [List.map_append]; rfl) | (rw [List.map_append]; done) | (simp only [List.map_append, List.map_cons, List.map_nil, List.nil_append, encOp] <;> rfl)
          have hl102 : List.length (List.map encOp (x100) : List (List AV)) + List.length ([[AV.int .i64 (x1.f_Op), AV.int .i64 (0), AV.int .i64 (0)]] : List (List AV)) = List.length (x100 ++ ([(⟨x1.f_Op, 0, 0⟩ : OpS)] : List OpS)) := by simp only [List.length_map, List.length_append] <;> rfl
          have hl102_b : List.length x100 + List.length ([[AV.int .i64 (x1.f_Op), AV.int .i64 (0), AV.int .i64 (0)]] : List (List AV)) = List.length (x100 ++ ([(⟨x1.f_Op, 0, 0⟩ : OpS)] : List OpS)) := by simp only [List.length_map, List.length_append] <;> rfl
          have hl102_c : List.length x100 + List.length ([(⟨x1.f_Op, 0, 0⟩ : OpS)] : List OpS) = List.length (x100 ++ ([(⟨x1.f_Op, 0, 0⟩ : OpS)] : List OpS)) := by simp only [List.length_map, List.length_append] <;> rfl
          first | simp only [hp101, hl102] | (simp only [List.length_map, take_map_len]; simp only [hp101, hl102_b, hl102_c])
          try simp only [ls]
          conv => lhs; whnf
          have hq := Option.some.inj hm; clear hm; subst hq
          try simp only [ls]
          exact fq (y := some (AV.int .i64 (x98), [Ob.var 87 [AV.sl 5 (List.map c_api_Node (m_l)), AV.func 27 [] [AV.ptr 1 0], AV.row 2 (List.length ((x100 ++ ([(⟨x1.f_Op, 0, 0⟩ : OpS)] : List OpS)))), AV.bool (x99)], Ob.var 23 [AV.sl 1 (List.map encS (o1))], Ob.row 53 3 (List.map encOp (x100 ++ ([(⟨x1.f_Op, 0, 0⟩ : OpS)] : List OpS)))]))
    · simp only [hc81, ls]
      conv => lhs; whnf
      refine bind_some2 hm ?_; clear hm; intro y105 hy105 hm
      have hk106 : call false 27 [AV.agg [AV.int .i64 (x1.f_Op), AV.int .i64 (x1.f_N), AV.str (x1.f_Name), AV.str (x1.f_In), AV.int .i64 (x1.f_At)], AV.ptr 0 0] [Ob.var 23 [AV.sl 1 (List.map encS (o1))]] = some (AV.tup [AV.agg [AV.int .i64 ((y105).1.op), AV.int .i64 ((y105).1.n), AV.int .i64 ((y105).1.t)], AV.bool ((y105).2)], [Ob.var 23 [AV.sl 1 (List.map encS (o1))]]) := (hc _ _ _).trans (ok_code_Thread_1 n x1 o1 y105 hy105)
      try simp only [List.drop_zero, ls]
      first | simp only [hk106] | rewrite [hk106]
      try simp only [ls]
      conv => lhs; whnf
      refine bif_or2 hm ?_ ?_ <;> clear hm <;> intro hc107 hm
      · simp only [hc107, ls]
        conv => lhs; whnf
        refine chk_some2 hm ?_; clear hm; intro hc110 hm
        refine bif_pos (app_row hc110 (by first | rfl | simp only [List.length_map]) (by first | rfl | simp only [List.length_map]) (by first | rfl | simp only [List.length_map, take_map_len]) (by kernel_rfl)) ?_
        try simp only [lt]
        have hp108 : (List.map encOp (m_out) : List (List AV)) ++ [[AV.int .i64 ((y105).1.op), AV.int .i64 ((y105).1.n), AV.int .i64 ((y105).1.t)]] = List.map encOp (m_out ++ ([(y105).1] : List OpS)) := by first | rfl | (rw [List.map_append]; rfl) | (rw [List.map_append]; done) | (simp only [List.map_append, List.map_cons, List.map_nil, List.nil_append, encOp] <;> rfl)
        have hl109 : List.length (List.map encOp (m_out) : List (List AV)) + List.length ([[AV.int .i64 ((y105).1.op), AV.int .i64 ((y105).1.n), AV.int .i64 ((y105).1.t)]] : List (List AV)) = List.length (m_out ++ ([(y105).1] : List OpS)) := by simp only [List.length_map, List.length_append] <;> rfl
        have hl109_b : List.length m_out + List.length ([[AV.int .i64 ((y105).1.op), AV.int .i64 ((y105).1.n), AV.int .i64 ((y105).1.t)]] : List (List AV)) = List.length (m_out ++ ([(y105).1] : List OpS)) := by simp only [List.length_map, List.length_append] <;> rfl
        have hl109_c : List.length m_out + List.length ([(y105).1] : List OpS) = List.length (m_out ++ ([(y105).1] : List OpS)) := by simp only [List.length_map, List.length_append] <;> rfl
        first | simp only [hp108, hl109] | (simp only [List.length_map, take_map_len]; simp only [hp108, hl109_b, hl109_c])
        try simp only [ls]
        conv => lhs; whnf
        have hq := Option.some.inj hm; clear hm; subst hq
        try simp only [ls]
        exact fq (y := some (AV.int .i64 (IntKind.i64.wrap (v1_i + 1)), [Ob.var 87 [AV.sl 5 (List.map c_api_Node (m_l)), AV.func 27 [] [AV.ptr 1 0], AV.row 2 (List.length ((m_out ++ ([(y105).1] : List OpS)))), AV.bool ((y105).2)], Ob.var 23 [AV.sl 1 (List.map encS (o1))], Ob.row 53 3 (List.map encOp (m_out ++ ([(y105).1] : List OpS)))]))
      · simp only [hc107, ls]
        conv => lhs; whnf
        refine chk_some2 hm ?_; clear hm; intro hc113 hm
        refine bif_pos (app_row hc113 (by first | rfl | simp only [List.length_map]) (by first | rfl | simp only [List.length_map]) (by first | rfl | simp only [List.length_map, take_map_len]) (by kernel_rfl)) ?_
        try simp only [lt]
        have hp111 : (List.map encOp (m_out) : List (List AV)) ++ [[AV.int .i64 ((y105).1.op), AV.int .i64 ((y105).1.n), AV.int .i64 ((y105).1.t)]] = List.map encOp (m_out ++ ([(y105).1] : List OpS)) := by first | rfl | (rw [List.map_append]; rfl) | (rw [List.map_append]; done) | (simp only [List.map_append, List.map_cons, List.map_nil, List.nil_append, encOp] <;> rfl)
        have hl112 : List.length (List.map encOp (m_out) : List (List AV)) + List.length ([[AV.int .i64 ((y105).1.op), AV.int .i64 ((y105).1.n), AV.int .i64 ((y105).1.t)]] : List (List AV)) = List.length (m_out ++ ([(y105).1] : List OpS)) := by simp only [List.length_map, List.length_append] <;> rfl
        have hl112_b : List.length m_out + List.length ([[AV.int .i64 ((y105).1.op), AV.int .i64 ((y105).1.n), AV.int .i64 ((y105).1.t)]] : List (List AV)) = List.length (m_out ++ ([(y105).1] : List OpS)) := by simp only [List.length_map, List.length_append] <;> rfl
        have hl112_c : List.length m_out + List.length ([(y105).1] : List OpS) = List.length (m_out ++ ([(y105).1] : List OpS)) := by simp only [List.length_map, List.length_append] <;> rfl
        first | simp only [hp111, hl112] | (simp only [List.length_map, take_map_len]; simp only [hp111, hl112_b, hl112_c])
        try simp only [ls]
        conv => lhs; whnf
        have hq := Option.some.inj hm; clear hm; subst hq
        try simp only [ls]
        exact fq (y := some (AV.int .i64 (IntKind.i64.wrap (v1_i + 1)), [Ob.var 87 [AV.sl 5 (List.map c_api_Node (m_l)), AV.func 27 [] [AV.ptr 1 0], AV.row 2 (List.length ((m_out ++ ([(y105).1] : List OpS)))), AV.bool (false)], Ob.var 23 [AV.sl 1 (List.map encS (o1))], Ob.row 53 3 (List.map encOp (m_out ++ ([(y105).1] : List OpS)))]))
  | c3 y7 =>
    dsimp only at hm
    have hk3 : call false 37 [AV.int .i64 (x1.f_Op)] [] = some (AV.tup [AV.agg [AV.int .i64 ((y7).1), AV.func 57 [] []], AV.bool ((y7).2)], []) := (hc _ _ _).trans (ok_code_of n x1.f_Op (.c3 y7) hy2)
    try simp only [List.drop_zero, ls]
    first | simp only [hk3] | rewrite [hk3]
    try simp only [ls]
    conv => lhs; whnf
    refine bif_or2 hm ?_ ?_ <;> clear hm <;> intro hc114 hm
    · simp only [hc114, ls]
      conv => lhs; whnf
      refine bind_some2 hm ?_; clear hm; intro o126 ho126 hm
      refine rounds_sim (σ := (Int × Int × Bool × (List OpS))) (τ := (Int × Bool × (List OpS))) (ν := (Int × (List OpS) × Bool)) 0 (fun (s115, s116, s117, s118) a120 => stOf 80 [(0, AV.ptr 0 0), (5, AV.ptr 3 0), (10, AV.int .i64 (s115)), (60, AV.int .i64 ((y7).1)), (61, AV.int .i64 (s116))]) (fun (s115, s116, s117, s118) a120 => [Ob.var 87 [AV.sl 5 (List.map c_api_Node (m_l)), AV.func 27 [] [AV.ptr 1 0], AV.row 2 (List.length (s118)), AV.bool (s117)], Ob.var 23 [AV.sl 1 (List.map encS (o1))], Ob.row 53 3 (List.map encOp (s118)), Ob.var 57 [AV.int .i64 (x1.f_Op), AV.int .i64 (x1.f_N), AV.str (x1.f_Name), AV.str (x1.f_In), AV.int .i64 (x1.f_At)], Ob.var 74 [AV.int .i64 ((y7).1), AV.func 57 [] []]]) (fun (x131, x132, x133) a130 => stOf 80 [(0, AV.ptr 0 0), (5, AV.ptr 3 0), (10, AV.int .i64 (x131))]) (fun (x131, x132, x133) a130 => [Ob.var 87 [AV.sl 5 (List.map c_api_Node (m_l)), AV.func 27 [] [AV.ptr 1 0], AV.row 2 (List.length (x133)), AV.bool (x132)], Ob.var 23 [AV.sl 1 (List.map encS (o1))], Ob.row 53 3 (List.map encOp (x133)), Ob.var 57 [AV.int .i64 (x1.f_Op), AV.int .i64 (x1.f_N), AV.str (x1.f_Name), AV.str (x1.f_In), AV.int .i64 (x1.f_At)], Ob.var 74 [AV.int .i64 ((y7).1), AV.func 57 [] []]]) (fun v => (AV.int .i64 ((v).1), [Ob.var 87 [AV.sl 5 (List.map c_api_Node (m_l)), AV.func 27 [] [AV.ptr 1 0], AV.row 2 (List.length ((v).2.1)), AV.bool ((v).2.2)], Ob.var 23 [AV.sl 1 (List.map encS (o1))], Ob.row 53 3 (List.map encOp ((v).2.1))])) (fun k s => code_maker_node_L3 n (m_code_maker_node n) m_l o1 y7 k ((s).1) ((s).2.1) ((s).2.2.1) ((s).2.2.2)) (fun s => rfl) o126 ?_ n (IntKind.i64.wrap (v1_i + 1), 0, m_ok, m_out) (fun _ => 0) _ _ ho126 ?_ (by first | rfl | (simp only [ls, List.map_append, List.map_cons, List.map_nil, List.append_nil, List.length_set, length_copyL] <;> rfl)) (by first | rfl | (simp only [ls, List.map_append, List.map_cons, List.map_nil, List.append_nil, List.length_set, length_copyL] <;> rfl))
      · intro k119 ss a120 K121 cont122 hK123 hcont124 hm hr125
        obtain ⟨s115, s116, s117, s118⟩ := ss
        replace hm : code_maker_node_L3 n (m_code_maker_node n) m_l o1 y7 (k119 + 1) s115 s116 s117 s118 = some o126 := hm
        rw [code_maker_node_L3] at hm
        conv => lhs; whnf
        refine bif_or2 hm ?_ ?_ <;> clear hm <;> intro hc127 hm
        · simp only [hc127, ls]
          conv => lhs; whnf
          refine bind_some2 hm ?_; clear hm; intro y128 hy128 hm
          have hk129 : call false 45 [AV.ptr 0 0, AV.int .i64 (s115)] [Ob.var 87 [AV.sl 5 (List.map c_api_Node (m_l)), AV.func 27 [] [AV.ptr 1 0], AV.row 2 (List.length (s118)), AV.bool (s117)], Ob.var 23 [AV.sl 1 (List.map encS (o1))], Ob.row 53 3 (List.map encOp (s118))] = some (AV.int .i64 ((y128).1), [Ob.var 87 [AV.sl 5 (List.map c_api_Node (m_l)), AV.func 27 [] [AV.ptr 1 0], AV.row 2 (List.length ((y128).2.1)), AV.bool ((y128).2.2)], Ob.var 23 [AV.sl 1 (List.map encS (o1))], Ob.row 53 3 (List.map encOp ((y128).2.1))]) := (hc _ _ _).trans (ih_code_maker_node s115 m_l s118 s117 o1 y128 hy128)
          try simp only [List.drop_zero, ls]
          first | simp only [hk129] | rewrite [hk129]
          try simp only [ls]
          conv => lhs; whnf
          exact cq (hcont124 ((y128).1, IntKind.i64.wrap (s116 + 1), (y128).2.2, (y128).2.1) (fun _ => 0) hm)
        · simp only [hc127, ls]
          conv => lhs; whnf
          have hq := Option.some.inj hm; clear hm; subst hq
          exact kq (hr125 (fun _ => 0))
      · cases o126 with
        | ret v =>
          have hq := Option.some.inj hm; clear hm; subst hq
          rfl
        | out t =>
          obtain ⟨x131, x132, x133⟩ := t
          intro a130
          dsimp only at hm
          conv => lhs; whnf
          refine chk_some2 hm ?_; clear hm; intro hc136 hm
          refine bif_pos (app_row hc136 (by first | rfl | simp only [List.length_map]) (by first | rfl | simp only [List.length_map]) (by first | rfl | simp only [List.length_map, take_map_len]) (by kernel_rfl)) ?_
          try simp only [lt]
          have hp134 : (List.map encOp (x133) : List (List AV)) ++ [[AV.int .i64 (x1.f_Op), AV.int .i64 (0), AV.int .i64 (0)]] = List.map encOp (x133 ++ ([(⟨x1.f_Op, 0, 0⟩ : OpS)] : List OpS)) := by first | rfl | (rw [List.map_append]; rfl) | (rw [List.map_append]; done) | (simp only [List.map_append, List.map_cons, List.map_nil, List.nil_append, encOp] <;> rfl)
          have hl135 : List.length (List.map encOp (x133) : List (List AV)) + List.length ([[AV.int .i64 (x1.f_Op), AV.int .i64 (0), AV.int .i64 (0)]] : List (List AV)) = List.length (x133 ++ ([(⟨x1.f_Op, 0, 0⟩ : OpS)] : List OpS)) := by simp only [List.length_map, List.length_append] <;> rfl
          have hl135_b : List.length x133 + List.length ([[AV.int .i64 (x1.f_Op), AV.int .i64 (0), AV.int .i64 (0)]] : List (List AV)) = List.length (x133 ++ ([(⟨x1.f_Op, 0, 0⟩ : OpS)] : List OpS)) := by simp only [List.length_map, List.length_append] <;> rfl
          have hl135_c : List.length x133 + List.length ([(⟨x1.f_Op, 0, 0⟩ : OpS)] : List OpS) = List.length (x133 ++ ([(⟨x1.f_Op, 0, 0⟩ : OpS)] : List OpS)) := by simp only [List.length_map, List.length_append] <;> rfl
          first | simp only [hp134, hl135] | (simp only [List.length_map, take_map_len]; simp only [hp134, hl135_b, hl135_c])
          try simp only [ls]
          conv => lhs; whnf
          have hq := Option.some.inj hm; clear hm; subst hq
          try simp only [ls]
          exact fq (y := some (AV.int .i64 (x131), [Ob.var 87 [AV.sl 5 (List.map c_api_Node (m_l)), AV.func 27 [] [AV.ptr 1 0], AV.row 2 (List.length ((x133 ++ ([(⟨x1.f_Op, 0, 0⟩ : OpS)] : List OpS)))), AV.bool (x132)], Ob.var 23 [AV.sl 1 (List.map encS (o1))], Ob.row 53 3 (List.map encOp (x133 ++ ([(⟨x1.f_Op, 0, 0⟩ : OpS)] : List OpS)))]))
    · simp only [hc114, ls]
      conv => lhs; whnf
      refine bind_some2 hm ?_; clear hm; intro y138 hy138 hm
      have hk139 : call false 27 [AV.agg [AV.int .i64 (x1.f_Op), AV.int .i64 (x1.f_N), AV.str (x1.f_Name), AV.str (x1.f_In), AV.int .i64 (x1.f_At)], AV.ptr 0 0] [Ob.var 23 [AV.sl 1 (List.map encS (o1))]] = some (AV.tup [AV.agg [AV.int .i64 ((y138).1.op), AV.int .i64 ((y138).1.n), AV.int .i64 ((y138).1.t)], AV.bool ((y138).2)], [Ob.var 23 [AV.sl 1 (List.map encS (o1))]]) := (hc _ _ _).trans (ok_code_Thread_1 n x1 o1 y138 hy138)
      try simp only [List.drop_zero, ls]
      first | simp only [hk139] | rewrite [hk139]
      try simp only [ls]
      conv => lhs; whnf
      refine bif_or2 hm ?_ ?_ <;> clear hm <;> intro hc140 hm
      · simp only [hc140, ls]
        conv => lhs; whnf
        refine chk_some2 hm ?_; clear hm; intro hc143 hm
        refine bif_pos (app_row hc143 (by first | rfl | simp only [List.length_map]) (by first | rfl | simp only [List.length_map]) (by first | rfl | simp only [List.length_map, take_map_len]) (by kernel_rfl)) ?_
        try simp only [lt]
        have hp141 : (List.map encOp (m_out) : List (List AV)) ++ [[AV.int .i64 ((y138).1.op), AV.int .i64 ((y138).1.n), AV.int .i64 ((y138).1.t)]] = List.map encOp (m_out ++ ([(y138).1] : List OpS)) := by first | rfl | (rw [List.map_append]; rfl) | (rw [List.map_append]; done) | (simp only [List.map_append, List.map_cons, List.map_nil, List.nil_append, encOp] <;> rfl)
        have hl142 : List.length (List.map encOp (m_out) : List (List AV)) + List.length ([[AV.int .i64 ((y138).1.op), AV.int .i64 ((y138).1.n), AV.int .i64 ((y138).1.t)]] : List (List AV)) = List.length (m_out ++ ([(y138).1] : List OpS)) := by simp only [List.length_map, List.length_append] <;> rfl
        have hl142_b : List.length m_out + List.length ([[AV.int .i64 ((y138).1.op), AV.int .i64 ((y138).1.n), AV.int .i64 ((y138).1.t)]] : List (List AV)) = List.length (m_out ++ ([(y138).1] : List OpS)) := by simp only [List.length_map, List.length_append] <;> rfl
        have hl142_c : List.length m_out + List.length ([(y138).1] : List OpS) = List.length (m_out ++ ([(y138).1] : List OpS)) := by simp only [List.length_map, List.length_append] <;> rfl
        first | simp only [hp141, hl142] | (simp only [List.length_map, take_map_len]; simp only [hp141, hl142_b, hl142_c])
        try simp only [ls]
        conv => lhs; whnf
        have hq := Option.some.inj hm; clear hm; subst hq
        try simp only [ls]
        exact fq (y := some (AV.int .i64 (IntKind.i64.wrap (v1_i + 1)), [Ob.var 87 [AV.sl 5 (List.map c_api_Node (m_l)), AV.func 27 [] [AV.ptr 1 0], AV.row 2 (List.length ((m_out ++ ([(y138).1] : List OpS)))), AV.bool ((y138).2)], Ob.var 23 [AV.sl 1 (List.map encS (o1))], Ob.row 53 3 (List.map encOp (m_out ++ ([(y138).1] : List OpS)))]))
      · simp only [hc140, ls]
        conv => lhs; whnf
        refine chk_some2 hm ?_; clear hm; intro hc146 hm
        refine bif_pos (app_row hc146 (by first | rfl | simp only [List.length_map]) (by first | rfl | simp only [List.length_map]) (by first | rfl | simp only [List.length_map, take_map_len]) (by kernel_rfl)) ?_
        try simp only [lt]
        have hp144 : (List.map encOp (m_out) : List (List AV)) ++ [[AV.int .i64 ((y138).1.op), AV.int .i64 ((y138).1.n), AV.int .i64 ((y138).1.t)]] = List.map encOp (m_out ++ ([(y138).1] : List OpS)) := by first | rfl | (rw [List.map_append]; rfl) | (rw [List.map_append]; done) | (simp only [List.map_append, List.map_cons, List.map_nil, List.nil_append, encOp] <;> rfl)
        have hl145 : List.length (List.map encOp (m_out) : List (List AV)) + List.length ([[AV.int .i64 ((y138).1.op), AV.int .i64 ((y138).1.n), AV.int .i64 ((y138).1.t)]] : List (List AV)) = List.length (m_out ++ ([(y138).1] : List OpS)) := by simp only [List.length_map, List.length_append] <;> rfl
        have hl145_b : List.length m_out + List.length ([[AV.int .i64 ((y138).1.op), AV.int .i64 ((y138).1.n), AV.int .i64 ((y138).1.t)]] : List (List AV)) = List.length (m_out ++ ([(y138).1] : List OpS)) := by simp only [List.length_map, List.length_append] <;> rfl
        have hl145_c : List.length m_out + List.length ([(y138).1] : List OpS) = List.length (m_out ++ ([(y138).1] : List OpS)) := by simp only [List.length_map, List.length_append] <;> rfl
        first | simp only [hp144, hl145] | (simp only [List.length_map, take_map_len]; simp only [hp144, hl145_b, hl145_c])
        try simp only [ls]
        conv => lhs; whnf
        have hq := Option.some.inj hm; clear hm; subst hq
        try simp only [ls]
        exact fq (y := some (AV.int .i64 (IntKind.i64.wrap (v1_i + 1)), [Ob.var 87 [AV.sl 5 (List.map c_api_Node (m_l)), AV.func 27 [] [AV.ptr 1 0], AV.row 2 (List.length ((m_out ++ ([(y138).1] : List OpS)))), AV.bool (false)], Ob.var 23 [AV.sl 1 (List.map encS (o1))], Ob.row 53 3 (List.map encOp (m_out ++ ([(y138).1] : List OpS)))]))
  | c4 y8 =>
    dsimp only at hm
    have hk3 : call false 37 [AV.int .i64 (x1.f_Op)] [] = some (AV.tup [AV.agg [AV.int .i64 ((y8).1), AV.func 56 [] []], AV.bool ((y8).2)], []) := (hc _ _ _).trans (ok_code_of n x1.f_Op (.c4 y8) hy2)
    try simp only [List.drop_zero, ls]
    first | simp only [hk3] | rewrite [hk3]
    try simp only [ls]
    conv => lhs; whnf
    refine bif_or2 hm ?_ ?_ <;> clear hm <;> intro hc147 hm
    · simp only [hc147, ls]
      conv => lhs; whnf
      refine bind_some2 hm ?_; clear hm; intro o159 ho159 hm
      refine rounds_sim (σ := (Int × Int × Bool × (List OpS))) (τ := (Int × Bool × (List OpS))) (ν := (Int × (List OpS) × Bool)) 0 (fun (s148, s149, s150, s151) a153 => stOf 80 [(0, AV.ptr 0 0), (5, AV.ptr 3 0), (10, AV.int .i64 (s148)), (60, AV.int .i64 ((y8).1)), (61, AV.int .i64 (s149))]) (fun (s148, s149, s150, s151) a153 => [Ob.var 87 [AV.sl 5 (List.map c_api_Node (m_l)), AV.func 27 [] [AV.ptr 1 0], AV.row 2 (List.length (s151)), AV.bool (s150)], Ob.var 23 [AV.sl 1 (List.map encS (o1))], Ob.row 53 3 (List.map encOp (s151)), Ob.var 57 [AV.int .i64 (x1.f_Op), AV.int .i64 (x1.f_N), AV.str (x1.f_Name), AV.str (x1.f_In), AV.int .i64 (x1.f_At)], Ob.var 74 [AV.int .i64 ((y8).1), AV.func 56 [] []]]) (fun (x164, x165, x166) a163 => stOf 80 [(0, AV.ptr 0 0), (5, AV.ptr 3 0), (10, AV.int .i64 (x164))]) (fun (x164, x165, x166) a163 => [Ob.var 87 [AV.sl 5 (List.map c_api_Node (m_l)), AV.func 27 [] [AV.ptr 1 0], AV.row 2 (List.length (x166)), AV.bool (x165)], Ob.var 23 [AV.sl 1 (List.map encS (o1))], Ob.row 53 3 (List.map encOp (x166)), Ob.var 57 [AV.int .i64 (x1.f_Op), AV.int .i64 (x1.f_N), AV.str (x1.f_Name), AV.str (x1.f_In), AV.int .i64 (x1.f_At)], Ob.var 74 [AV.int .i64 ((y8).1), AV.func 56 [] []]]) (fun v => (AV.int .i64 ((v).1), [Ob.var 87 [AV.sl 5 (List.map c_api_Node (m_l)), AV.func 27 [] [AV.ptr 1 0], AV.row 2 (List.length ((v).2.1)), AV.bool ((v).2.2)], Ob.var 23 [AV.sl 1 (List.map encS (o1))], Ob.row 53 3 (List.map encOp ((v).2.1))])) (fun k s => code_maker_node_L4 n (m_code_maker_node n) m_l o1 y8 k ((s).1) ((s).2.1) ((s).2.2.1) ((s).2.2.2)) (fun s => rfl) o159 ?_ n (IntKind.i64.wrap (v1_i + 1), 0, m_ok, m_out) (fun _ => 0) _ _ ho159 ?_ (by first | rfl | (simp only [ls, List.map_append, List.map_cons, List.map_nil, List.append_nil, List.length_set, length_copyL] <;> rfl)) (by first | rfl | (simp only [ls, List.map_append, List.map_cons, List.map_nil, List.append_nil, List.length_set, length_copyL] <;> rfl))
      · intro k152 ss a153 K154 cont155 hK156 hcont157 hm hr158
        obtain ⟨s148, s149, s150, s151⟩ := ss
        replace hm : code_maker_node_L4 n (m_code_maker_node n) m_l o1 y8 (k152 + 1) s148 s149 s150 s151 = some o159 := hm
        rw [code_maker_node_L4] at hm
        conv => lhs; whnf
        refine bif_or2 hm ?_ ?_ <;> clear hm <;> intro hc160 hm
        · simp only [hc160, ls]
          conv => lhs; whnf
          refine bind_some2 hm ?_; clear hm; intro y161 hy161 hm
          have hk162 : call false 45 [AV.ptr 0 0, AV.int .i64 (s148)] [Ob.var 87 [AV.sl 5 (List.map c_api_Node (m_l)), AV.func 27 [] [AV.ptr 1 0], AV.row 2 (List.length (s151)), AV.bool (s150)], Ob.var 23 [AV.sl 1 (List.map encS (o1))], Ob.row 53 3 (List.map encOp (s151))] = some (AV.int .i64 ((y161).1), [Ob.var 87 [AV.sl 5 (List.map c_api_Node (m_l)), AV.func 27 [] [AV.ptr 1 0], AV.row 2 (List.length ((y161).2.1)), AV.bool ((y161).2.2)], Ob.var 23 [AV.sl 1 (List.map encS (o1))], Ob.row 53 3 (List.map encOp ((y161).2.1))]) := (hc _ _ _).trans (ih_code_maker_node s148 m_l s151 s150 o1 y161 hy161)
          try simp only [List.drop_zero, ls]
          first | simp only [hk162] | rewrite [hk162]
          try simp only [ls]
          conv => lhs; whnf
          exact cq (hcont157 ((y161).1, IntKind.i64.wrap (s149 + 1), (y161).2.2, (y161).2.1) (fun _ => 0) hm)
        · simp only [hc160, ls]
          conv => lhs; whnf
          have hq := Option.some.inj hm; clear hm; subst hq
          exact kq (hr158 (fun _ => 0))
      · cases o159 with
        | ret v =>
          have hq := Option.some.inj hm; clear hm; subst hq
          rfl
        | out t =>
          obtain ⟨x164, x165, x166⟩ := t
          intro a163
          dsimp only at hm
          conv => lhs; whnf
          refine chk_some2 hm ?_; clear hm; intro hc169 hm
          refine bif_pos (app_row hc169 (by first | rfl | simp only [List.length_map]) (by first | rfl | simp only [List.length_map]) (by first | rfl | simp only [List.length_map, take_map_len]) (by kernel_rfl)) ?_
          try simp only [lt]
          have hp167 : (List.map encOp (x166) : List (List AV)) ++ [[AV.int .i64 (x1.f_Op), AV.int .i64 (0), AV.int .i64 (0)]] = List.map encOp (x166 ++ ([(⟨x1.f_Op, 0, 0⟩ : OpS)] : List OpS)) := by first | rfl | (rw [List.map_append]; rfl) | (rw [List.map_append]; done) | (simp only [List.map_append, List.map_cons, List.map_nil, List.nil_append, encOp] <;> rfl)
          have hl168 : List.length (List.map encOp (x166) : List (List AV)) + List.length ([[AV.int .i64 (x1.f_Op), AV.int .i64 (0), AV.int .i64 (0)]] : List (List AV)) = List.length (x166 ++ ([(⟨x1.f_Op, 0, 0⟩ : OpS)] : List OpS)) := by simp only [List.length_map, List.length_append] <;> rfl
          have hl168_b : List.length x166 + List.length ([[AV.int .i64 (x1.f_Op), AV.int .i64 (0), AV.int .i64 (0)]] : List (List AV)) = List.length (x166 ++ ([(⟨x1.f_Op, 0, 0⟩ : OpS)] : List OpS)) := by simp only [List.length_map, List.length_append] <;> rfl
          have hl168_c : List.length x166 + List.length ([(⟨x1.f_Op, 0, 0⟩ : OpS)] : List OpS) = List.length (x166 ++ ([(⟨x1.f_Op, 0, 0⟩ : OpS)] : List OpS)) := by simp only [List.length_map, List.length_append] <;> rfl
          first | simp only [hp167, hl168] | (simp only [List.length_map, take_map_len]; simp only [hp167, hl168_b, hl168_c])
          try simp only [ls]
          conv => lhs; whnf
          have hq := Option.some.inj hm; clear hm; subst hq
          try simp only [ls]
          exact fq (y := some (AV.int .i64 (x164), [Ob.var 87 [AV.sl 5 (List.map c_api_Node (m_l)), AV.func 27 [] [AV.ptr 1 0], AV.row 2 (List.length ((x166 ++ ([(⟨x1.f_Op, 0, 0⟩ : OpS)] : List OpS)))), AV.bool (x165)], Ob.var 23 [AV.sl 1 (List.map encS (o1))], Ob.row 53 3 (List.map encOp (x166 ++ ([(⟨x1.f_Op, 0, 0⟩ : OpS)] : List OpS)))]))
    · simp only [hc147, ls]
      conv => lhs; whnf
      refine bind_some2 hm ?_; clear hm; intro y171 hy171 hm
      have hk172 : call false 27 [AV.agg [AV.int .i64 (x1.f_Op), AV.int .i64 (x1.f_N), AV.str (x1.f_Name), AV.str (x1.f_In), AV.int .i64 (x1.f_At)], AV.ptr 0 0] [Ob.var 23 [AV.sl 1 (List.map encS (o1))]] = some (AV.tup [AV.agg [AV.int .i64 ((y171).1.op), AV.int .i64 ((y171).1.n), AV.int .i64 ((y171).1.t)], AV.bool ((y171).2)], [Ob.var 23 [AV.sl 1 (List.map encS (o1))]]) := (hc _ _ _).trans (ok_code_Thread_1 n x1 o1 y171 hy171)
      try simp only [List.drop_zero, ls]
      first | simp only [hk172] | rewrite [hk172]
      try simp only [ls]
      conv => lhs; whnf
      refine bif_or2 hm ?_ ?_ <;> clear hm <;> intro hc173 hm
      · simp only [hc173, ls]
        conv => lhs; whnf
        refine chk_some2 hm ?_; clear hm; intro hc176 hm
        refine bif_pos (app_row hc176 (by first | rfl | simp only [List.length_map]) (by first | rfl | simp only [List.length_map]) (by first | rfl | simp only [List.length_map, take_map_len]) (by kernel_rfl)) ?_
        try simp only [lt]
        have hp174 : (List.map encOp (m_out) : List (List AV)) ++ [[AV.int .i64 ((y171).1.op), AV.int .i64 ((y171).1.n), AV.int .i64 ((y171).1.t)]] = List.map encOp (m_out ++ ([(y171).1] : List OpS)) := by first | rfl | (rw [List.map_append]; rfl) | (rw [List.map_append]; done) | (simp only [List.map_append, List.map_cons, List.map_nil, List.nil_append, encOp] <;> rfl)
        have hl175 : List.length (List.map encOp (m_out) : List (List AV)) + List.length ([[AV.int .i64 ((y171).1.op), AV.int .i64 ((y171).1.n), AV.int .i64 ((y171).1.t)]] : List (List AV)) = List.length (m_out ++ ([(y171).1] : List OpS)) := by simp only [List.length_map, List.length_append] <;> rfl
        have hl175_b : List.length m_out + List.length ([[AV.int .i64 ((y171).1.op), AV.int .i64 ((y171).1.n), AV.int .i64 ((y171).1.t)]] : List (List AV)) = List.length (m_out ++ ([(y171).1] : List OpS)) := by simp only [List.length_map, List.length_append] <;> rfl
        have hl175_c : List.length m_out + List.length ([(y171).1] : List OpS) = List.length (m_out ++ ([(y171).1] : List OpS)) := by simp only [List.length_map, List.length_append] <;> rfl
        first | simp only [hp174, hl175] | (simp only [List.length_map, take_map_len]; simp only [hp174, hl175_b, hl175_c])
        try simp only [ls]
        conv => lhs; whnf
        have hq := Option.some.inj hm; clear hm; subst hq
        try simp only [ls]
        exact fq (y := some (AV.int .i64 (IntKind.i64.wrap (v1_i + 1)), [Ob.var 87 [AV.sl 5 (List.map c_api_Node (m_l)), AV.func 27 [] [AV.ptr 1 0], AV.row 2 (List.length ((m_out ++ ([(y171).1] : List OpS)))), AV.bool ((y171).2)], Ob.var 23 [AV.sl 1 (List.map encS (o1))], Ob.row 53 3 (List.map encOp (m_out ++ ([(y171).1] : List OpS)))]))
      · simp only [hc173, ls]
        conv => lhs; whnf
        refine chk_some2 hm ?_; clear hm; intro hc179 hm
        refine bif_pos (app_row hc179 (by first | rfl | simp only [List.length_map]) (by first | rfl | simp only [List.length_map]) (by first | rfl | simp only [List.length_map, take_map_len]) (by kernel_rfl)) ?_
        try simp only [lt]
        have hp177 : (List.map encOp (m_out) : List (List AV)) ++ [[AV.int .i64 ((y171).1.op), AV.int .i64 ((y171).1.n), AV.int .i64 ((y171).1.t)]] = List.map encOp (m_out ++ ([(y171).1] : List OpS)) := by first | rfl | (rw [List.map_append]; rfl) | (rw [List.map_append]; done) | (simp only [List.map_append, List.map_cons, List.map_nil, List.nil_append, encOp] <;> rfl)
        have hl178 : List.length (List.map encOp (m_out) : List (List AV)) + List.length ([[AV.int .i64 ((y171).1.op), AV.int .i64 ((y171).1.n), AV.int .i64 ((y171).1.t)]] : List (List AV)) = List.length (m_out ++ ([(y171).1] : List OpS)) := by simp only [List.length_map, List.length_append] <;> rfl
        have hl178_b : List.length m_out + List.length ([[AV.int .i64 ((y171).1.op), AV.int .i64 ((y171).1.n), AV.int .i64 ((y171).1.t)]] : List (List AV)) = List.length (m_out ++ ([(y171).1] : List OpS)) := by simp only [List.length_map, List.length_append] <;> rfl
        have hl178_c : List.length m_out + List.length ([(y171).1] : List OpS) = List.length (m_out ++ ([(y171).1] : List OpS)) := by simp only [List.length_map, List.length_append] <;> rfl
        first | simp only [hp177, hl178] | (simp only [List.length_map, take_map_len]; simp only [hp177, hl178_b, hl178_c])
        try simp only [ls]
        conv => lhs; whnf
        have hq := Option.some.inj hm; clear hm; subst hq
        try simp only [ls]
        exact fq (y := some (AV.int .i64 (IntKind.i64.wrap (v1_i + 1)), [Ob.var 87 [AV.sl 5 (List.map c_api_Node (m_l)), AV.func 27 [] [AV.ptr 1 0], AV.row 2 (List.length ((m_out ++ ([(y171).1] : List OpS)))), AV.bool (false)], Ob.var 23 [AV.sl 1 (List.map encS (o1))], Ob.row 53 3 (List.map encOp (m_out ++ ([(y171).1] : List OpS)))]))
  | c5 y9 =>
    dsimp only at hm
    have hk3 : call false 37 [AV.int .i64 (x1.f_Op)] [] = some (AV.tup [AV.agg [AV.int .i64 ((y9).1), AV.func 55 [] []], AV.bool ((y9).2)], []) := (hc _ _ _).trans (ok_code_of n x1.f_Op (.c5 y9) hy2)
    try simp only [List.drop_zero, ls]
    first | simp only [hk3] | rewrite [hk3]
    try simp only [ls]
    conv => lhs; whnf
    refine bif_or2 hm ?_ ?_ <;> clear hm <;> intro hc180 hm
    · simp only [hc180, ls]
      conv => lhs; whnf
      refine bind_some2 hm ?_; clear hm; intro o192 ho192 hm
      refine rounds_sim (σ := (Int × Int × Bool × (List OpS))) (τ := (Int × Bool × (List OpS))) (ν := (Int × (List OpS) × Bool)) 0 (fun (s181, s182, s183, s184) a186 => stOf 80 [(0, AV.ptr 0 0), (5, AV.ptr 3 0), (10, AV.int .i64 (s181)), (60, AV.int .i64 ((y9).1)), (61, AV.int .i64 (s182))]) (fun (s181, s182, s183, s184) a186 => [Ob.var 87 [AV.sl 5 (List.map c_api_Node (m_l)), AV.func 27 [] [AV.ptr 1 0], AV.row 2 (List.length (s184)), AV.bool (s183)], Ob.var 23 [AV.sl 1 (List.map encS (o1))], Ob.row 53 3 (List.map encOp (s184)), Ob.var 57 [AV.int .i64 (x1.f_Op), AV.int .i64 (x1.f_N), AV.str (x1.f_Name), AV.str (x1.f_In), AV.int .i64 (x1.f_At)], Ob.var 74 [AV.int .i64 ((y9).1), AV.func 55 [] []]]) (fun (x197, x198, x199) a196 => stOf 80 [(0, AV.ptr 0 0), (5, AV.ptr 3 0), (10, AV.int .i64 (x197))]) (fun (x197, x198, x199) a196 => [Ob.var 87 [AV.sl 5 (List.map c_api_Node (m_l)), AV.func 27 [] [AV.ptr 1 0], AV.row 2 (List.length (x199)), AV.bool (x198)], Ob.var 23 [AV.sl 1 (List.map encS (o1))], Ob.row 53 3 (List.map encOp (x199)), Ob.var 57 [AV.int .i64 (x1.f_Op), AV.int .i64 (x1.f_N), AV.str (x1.f_Name), AV.str (x1.f_In), AV.int .i64 (x1.f_At)], Ob.var 74 [AV.int .i64 ((y9).1), AV.func 55 [] []]]) (fun v => (AV.int .i64 ((v).1), [Ob.var 87 [AV.sl 5 (List.map c_api_Node (m_l)), AV.func 27 [] [AV.ptr 1 0], AV.row 2 (List.length ((v).2.1)), AV.bool ((v).2.2)], Ob.var 23 [AV.sl 1 (List.map encS (o1))], Ob.row 53 3 (List.map encOp ((v).2.1))])) (fun k s => code_maker_node_L5 n (m_code_maker_node n) m_l o1 y9 k ((s).1) ((s).2.1) ((s).2.2.1) ((s).2.2.2)) (fun s => rfl) o192 ?_ n (IntKind.i64.wrap (v1_i + 1), 0, m_ok, m_out) (fun _ => 0) _ _ ho192 ?_ (by first | rfl | (simp only [ls, List.map_append, List.map_cons, List.map_nil, List.append_nil, List.length_set, length_copyL] <;> rfl)) (by first | rfl | (simp only [ls, List.map_append, List.map_cons, List.map_nil, List.append_nil, List.length_set, length_copyL] <;> rfl))
      · intro k185 ss a186 K187 cont188 hK189 hcont190 hm hr191
        obtain ⟨s181, s182, s183, s184⟩ := ss
        replace hm : code_maker_node_L5 n (m_code_maker_node n) m_l o1 y9 (k185 + 1) s181 s182 s183 s184 = some o192 := hm
        rw [code_maker_node_L5] at hm
        conv => lhs; whnf
        refine bif_or2 hm ?_ ?_ <;> clear hm <;> intro hc193 hm
        · simp only [hc193, ls]
          conv => lhs; whnf
          refine bind_some2 hm ?_; clear hm; intro y194 hy194 hm
          have hk195 : call false 45 [AV.ptr 0 0, AV.int .i64 (s181)] [Ob.var 87 [AV.sl 5 (List.map c_api_Node (m_l)), AV.func 27 [] [AV.ptr 1 0], AV.row 2 (List.length (s184)), AV.bool (s183)], Ob.var 23 [AV.sl 1 (List.map encS (o1))], Ob.row 53 3 (List.map encOp (s184))] = some (AV.int .i64 ((y194).1), [Ob.var 87 [AV.sl 5 (List.map c_api_Node (m_l)), AV.func 27 [] [AV.ptr 1 0], AV.row 2 (List.length ((y194).2.1)), AV.bool ((y194).2.2)], Ob.var 23 [AV.sl 1 (List.map encS (o1))], Ob.row 53 3 (List.map encOp ((y194).2.1))]) := (hc _ _ _).trans (ih_code_maker_node s181 m_l s184 s183 o1 y194 hy194)
          try simp only [List.drop_zero, ls]
          first | simp only [hk195] | rewrite [hk195]
          try simp only [ls]
          conv => lhs; whnf
          exact cq (hcont190 ((y194).1, IntKind.i64.wrap (s182 + 1), (y194).2.2, (y194).2.1) (fun _ => 0) hm)
        · simp only [hc193, ls]
          conv => lhs; whnf
          have hq := Option.some.inj hm; clear hm; subst hq
          exact kq (hr191 (fun _ => 0))
      · cases o192 with
        | ret v =>
          have hq := Option.some.inj hm; clear hm; subst hq
          rfl
        | out t =>
          obtain ⟨x197, x198, x199⟩ := t
          intro a196
          dsimp only at hm
          conv => lhs; whnf
          refine chk_some2 hm ?_; clear hm; intro hc202 hm
          refine bif_pos (app_row hc202 (by first | rfl | simp only [List.length_map]) (by first | rfl | simp only [List.length_map]) (by first | rfl | simp only [List.length_map, take_map_len]) (by kernel_rfl)) ?_
          try simp only [lt]
          have hp200 : (List.map encOp (x199) : List (List AV)) ++ [[AV.int .i64 (x1.f_Op), AV.int .i64 (0), AV.int .i64 (0)]] = List.map encOp (x199 ++ ([(⟨x1.f_Op, 0, 0⟩ : OpS)] : List OpS)) := by first | rfl | (rw [List.map_append]; rfl) | (rw [List.map_append]; done) | (simp only [List.map_append, List.map_cons, List.map_nil, List.nil_append, encOp] <;> rfl)
          have hl201 : List.length (List.map encOp (x199) : List (List AV)) + List.length ([[AV.int .i64 (x1.f_Op), AV.int .i64 (0), AV.int .i64 (0)]] : List (List AV)) = List.length (x199 ++ ([(⟨x1.f_Op, 0, 0⟩ : OpS)] : List OpS)) := by simp only [List.length_map, List.length_append] <;> rfl
          have hl201_b : List.length x199 + List.length ([[AV.int .i64 (x1.f_Op), AV.int .i64 (0), AV.int .i64 (0)]] : List (List AV)) = List.length (x199 ++ ([(⟨x1.f_Op, 0, 0⟩ : OpS)] : List OpS)) := by simp only [List.length_map, List.length_append] <;> rfl
          have hl201_c : List.length x199 + List.length ([(⟨x1.f_Op, 0, 0⟩ : OpS)] : List OpS) = List.length (x199 ++ ([(⟨x1.f_Op, 0, 0⟩ : OpS)] : List OpS)) := by simp only [List.length_map, List.length_append] <;> rfl
          first | simp only [hp200, hl201] | (simp only [List.length_map, take_map_len]; simp only [hp200, hl201_b, hl201_c])
          try simp only [ls]
          conv => lhs; whnf
          have hq := Option.some.inj hm; clear hm; subst hq
          try simp only [ls]
          exact fq (y := some (AV.int .i64 (x197), [Ob.var 87 [AV.sl 5 (List.map c_api_Node (m_l)), AV.func 27 [] [AV.ptr 1 0], AV.row 2 (List.length ((x199 ++ ([(⟨x1.f_Op, 0, 0⟩ : OpS)] : List OpS)))), AV.bool (x198)], Ob.var 23 [AV.sl 1 (List.map encS (o1))], Ob.row 53 3 (List.map encOp (x199 ++ ([(⟨x1.f_Op, 0, 0⟩ : OpS)] : List OpS)))]))
    · simp only [hc180, ls]
      conv => lhs; whnf
      refine bind_some2 hm ?_; clear hm; intro y204 hy204 hm
      have hk205 : call false 27 [AV.agg [AV.int .i64 (x1.f_Op), AV.int .i64 (x1.f_N), AV.str (x1.f_Name), AV.str (x1.f_In), AV.int .i64 (x1.f_At)], AV.ptr 0 0] [Ob.var 23 [AV.sl 1 (List.map encS (o1))]] = some (AV.tup [AV.agg [AV.int .i64 ((y204).1.op), AV.int .i64 ((y204).1.n), AV.int .i64 ((y204).1.t)], AV.bool ((y204).2)], [Ob.var 23 [AV.sl 1 (List.map encS (o1))]]) := (hc _ _ _).trans (ok_code_Thread_1 n x1 o1 y204 hy204)
      try simp only [List.drop_zero, ls]
      first | simp only [hk205] | rewrite [hk205]
      try simp only [ls]
      conv => lhs; whnf
      refine bif_or2 hm ?_ ?_ <;> clear hm <;> intro hc206 hm
      · simp only [hc206, ls]
        conv => lhs; whnf
        refine chk_some2 hm ?_; clear hm; intro hc209 hm
        refine bif_pos (app_row hc209 (by first | rfl | simp only [List.length_map]) (by first | rfl | simp only [List.length_map]) (by first | rfl | simp only [List.length_map, take_map_len]) (by kernel_rfl)) ?_
        try simp only [lt]
        have hp207 : (List.map encOp (m_out) : List (List AV)) ++ [[AV.int .i64 ((y204).1.op), AV.int .i64 ((y204).1.n), AV.int .i64 ((y204).1.t)]] = List.map encOp (m_out ++ ([(y204).1] : List OpS)) := by first | rfl | (rw [List.map_append]; rfl) | (rw [List.map_append]; done) | (simp only [List.map_append, List.map_cons, List.map_nil, List.nil_append, encOp] <;> rfl)
        have hl208 : List.length (List.map encOp (m_out) : List (List AV)) + List.length ([[AV.int .i64 ((y204).1.op), AV.int .i64 ((y204).1.n), AV.int .i64 ((y204).1.t)]] : List (List AV)) = List.length (m_out ++ ([(y204).1] : List OpS)) := by simp only [List.length_map, List.length_append] <;> rfl
        have hl208_b : List.length m_out + List.length ([[AV.int .i64 ((y204).1.op), AV.int .i64 ((y204).1.n), AV.int .i64 ((y204).1.t)]] : List (List AV)) = List.length (m_out ++ ([(y204).1] : List OpS)) := by simp only [List.length_map, List.length_append] <;> rfl
        have hl208_c : List.length m_out + List.length ([(y204).1] : List OpS) = List.length (m_out ++ ([(y204).1] : List OpS)) := by simp only [List.length_map, List.length_append] <;> rfl
        first | simp only [hp207, hl208] | (simp only [List.length_map, take_map_len]; simp only [hp207, hl208_b, hl208_c])
        try simp only [ls]
        conv => lhs; whnf
        have hq := Option.some.inj hm; clear hm; subst hq
        try simp only [ls]
        exact fq (y := some (AV.int .i64 (IntKind.i64.wrap (v1_i + 1)), [Ob.var 87 [AV.sl 5 (List.map c_api_Node (m_l)), AV.func 27 [] [AV.ptr 1 0], AV.row 2 (List.length ((m_out ++ ([(y204).1] : List OpS)))), AV.bool ((y204).2)], Ob.var 23 [AV.sl 1 (List.map encS (o1))], Ob.row 53 3 (List.map encOp (m_out ++ ([(y204).1] : List OpS)))]))
      · simp only [hc206, ls]
        conv => lhs; whnf
        refine chk_some2 hm ?_; clear hm; intro hc212 hm
        refine bif_pos (app_row hc212 (by first | rfl | simp only [List.length_map]) (by first | rfl | simp only [List.length_map]) (by first | rfl | simp only [List.length_map, take_map_len]) (by kernel_rfl)) ?_
        try simp only [lt]
        have hp210 : (List.map encOp (m_out) : List (List AV)) ++ [[AV.int .i64 ((y204).1.op), AV.int .i64 ((y204).1.n), AV.int .i64 ((y204).1.t)]] = List.map encOp (m_out ++ ([(y204).1] : List OpS)) := by first | rfl | (rw [List.map_append]; rfl) | (rw [List.map_append]; done) | (simp only [List.map_append, List.map_cons, List.map_nil, List.nil_append, encOp] <;> rfl)
        have hl211 : List.length (List.map encOp (m_out) : List (List AV)) + List.length ([[AV.int .i64 ((y204).1.op), AV.int .i64 ((y204).1.n), AV.int .i64 ((y204).1.t)]] : List (List AV)) = List.length (m_out ++ ([(y204).1] : List OpS)) := by simp only [List.length_map, List.length_append] <;> rfl
        have hl211_b : List.length m_out + List.length ([[AV.int .i64 ((y204).1.op), AV.int .i64 ((y204).1.n), AV.int .i64 ((y204).1.t)]] : List (List AV)) = List.length (m_out ++ ([(y204).1] : List OpS)) := by simp only [List.length_map, List.length_append] <;> rfl
        have hl211_c : List.length m_out + List.length ([(y204).1] : List OpS) = List.length (m_out ++ ([(y204).1] : List OpS)) := by simp only [List.length_map, List.length_append] <;> rfl
        first | simp only [hp210, hl211] | (simp only [List.length_map, take_map_len]; simp only [hp210, hl211_b, hl211_c])
        try simp only [ls]
        conv => lhs; whnf
        have hq := Option.some.inj hm; clear hm; subst hq
        try simp only [ls]
        exact fq (y := some (AV.int .i64 (IntKind.i64.wrap (v1_i + 1)), [Ob.var 87 [AV.sl 5 (List.map c_api_Node (m_l)), AV.func 27 [] [AV.ptr 1 0], AV.row 2 (List.length ((m_out ++ ([(y204).1] : List OpS)))), AV.bool (false)], Ob.var 23 [AV.sl 1 (List.map encS (o1))], Ob.row 53 3 (List.map encOp (m_out ++ ([(y204).1] : List OpS)))]))
  | c6 y10 =>
    dsimp only at hm
    have hk3 : call false 37 [AV.int .i64 (x1.f_Op)] [] = some (AV.tup [AV.agg [AV.int .i64 ((y10).1), AV.func 54 [] []], AV.bool ((y10).2)], []) := (hc _ _ _).trans (ok_code_of n x1.f_Op (.c6 y10) hy2)
    try simp only [List.drop_zero, ls]
    first | simp only [hk3] | rewrite [hk3]
    try simp only [ls]
    conv => lhs; whnf
    refine bif_or2 hm ?_ ?_ <;> clear hm <;> intro hc213 hm
    · simp only [hc213, ls]
      conv => lhs; whnf
      refine bind_some2 hm ?_; clear hm; intro o225 ho225 hm
      refine rounds_sim (σ := (Int × Int × Bool × (List OpS))) (τ := (Int × Bool × (List OpS))) (ν := (Int × (List OpS) × Bool)) 0 (fun (s214, s215, s216, s217) a219 => stOf 80 [(0, AV.ptr 0 0), (5, AV.ptr 3 0), (10, AV.int .i64 (s214)), (60, AV.int .i64 ((y10).1)), (61, AV.int .i64 (s215))]) (fun (s214, s215, s216, s217) a219 => [Ob.var 87 [AV.sl 5 (List.map c_api_Node (m_l)), AV.func 27 [] [AV.ptr 1 0], AV.row 2 (List.length (s217)), AV.bool (s216)], Ob.var 23 [AV.sl 1 (List.map encS (o1))], Ob.row 53 3 (List.map encOp (s217)), Ob.var 57 [AV.int .i64 (x1.f_Op), AV.int .i64 (x1.f_N), AV.str (x1.f_Name), AV.str (x1.f_In), AV.int .i64 (x1.f_At)], Ob.var 74 [AV.int .i64 ((y10).1), AV.func 54 [] []]]) (fun (x230, x231, x232) a229 => stOf 80 [(0, AV.ptr 0 0), (5, AV.ptr 3 0), (10, AV.int .i64 (x230))]) (fun (x230, x231, x232) a229 => [Ob.var 87 [AV.sl 5 (List.map c_api_Node (m_l)), AV.func 27 [] [AV.ptr 1 0], AV.row 2 (List.length (x232)), AV.bool (x231)], Ob.var 23 [AV.sl 1 (List.map encS (o1))], Ob.row 53 3 (List.map encOp (x232)), Ob.var 57 [AV.int .i64 (x1.f_Op), AV.int .i64 (x1.f_N), AV.str (x1.f_Name), AV.str (x1.f_In), AV.int .i64 (x1.f_At)], Ob.var 74 [AV.int .i64 ((y10).1), AV.func 54 [] []]]) (fun v => (AV.int .i64 ((v).1), [Ob.var 87 [AV.sl 5 (List.map c_api_Node (m_l)), AV.func 27 [] [AV.ptr 1 0], AV.row 2 (List.length ((v).2.1)), AV.bool ((v).2.2)], Ob.var 23 [AV.sl 1 (List.map encS (o1))], Ob.row 53 3 (List.map encOp ((v).2.1))])) (fun k s => code_maker_node_L6 n (m_code_maker_node n) m_l o1 y10 k ((s).1) ((s).2.1) ((s).2.2.1) ((s).2.2.2)) (fun s => rfl) o225 ?_ n (IntKind.i64.wrap (v1_i + 1), 0, m_ok, m_out) (fun _ => 0) _ _ ho225 ?_ (by first | rfl | (simp only [ls, List.map_append, List.map_cons, List.map_nil, List.append_nil, List.length_set, length_copyL] <;> rfl)) (by first | rfl | (simp only [ls, List.map_append, List.map_cons, List.map_nil, List.append_nil, List.length_set, length_copyL] <;> rfl))
      · intro k218 ss a219 K220 cont221 hK222 hcont223 hm hr224
        obtain ⟨s214, s215, s216, s217⟩ := ss
        replace hm : code_maker_node_L6 n (m_code_maker_node n) m_l o1 y10 (k218 + 1) s214 s215 s216 s217 = some o225 := hm
        rw [code_maker_node_L6] at hm
        conv => lhs; whnf
        refine bif_or2 hm ?_ ?_ <;> clear hm <;> intro hc226 hm
        · simp only [hc226, ls]
          conv => lhs; whnf
          refine bind_some2 hm ?_; clear hm; intro y227 hy227 hm
          have hk228 : call false 45 [AV.ptr 0 0, AV.int .i64 (s214)] [Ob.var 87 [AV.sl 5 (List.map c_api_Node (m_l)), AV.func 27 [] [AV.ptr 1 0], AV.row 2 (List.length (s217)), AV.bool (s216)], Ob.var 23 [AV.sl 1 (List.map encS (o1))], Ob.row 53 3 (List.map encOp (s217))] = some (AV.int .i64 ((y227).1), [Ob.var 87 [AV.sl 5 (List.map c_api_Node (m_l)), AV.func 27 [] [AV.ptr 1 0], AV.row 2 (List.length ((y227).2.1)), AV.bool ((y227).2.2)], Ob.var 23 [AV.sl 1 (List.map encS (o1))], Ob.row 53 3 (List.map encOp ((y227).2.1))]) := (hc _ _ _).trans (ih_code_maker_node s214 m_l s217 s216 o1 y227 hy227)
          try simp only [List.drop_zero, ls]
          first | simp only [hk228] | rewrite [hk228]
          try simp only [ls]
          conv => lhs; whnf
          exact cq (hcont223 ((y227).1, IntKind.i64.wrap (s215 + 1), (y227).2.2, (y227).2.1) (fun _ => 0) hm)
        · simp only [hc226, ls]
          conv => lhs; whnf
          have hq := Option.some.inj hm; clear hm; subst hq
          exact kq (hr224 (fun _ => 0))
      · cases o225 with
        | ret v =>
          have hq := Option.some.inj hm; clear hm; subst hq
          rfl
        | out t =>
          obtain ⟨x230, x231, x232⟩ := t
          intro a229
          dsimp only at hm
          conv => lhs; whnf
          refine chk_some2 hm ?_; clear hm; intro hc235 hm
          refine bif_pos (app_row hc235 (by first | rfl | simp only [List.length_map]) (by first | rfl | simp only [List.length_map]) (by first | rfl | simp only [List.length_map, take_map_len]) (by kernel_rfl)) ?_
          try simp only [lt]
          have hp233 : (List.map encOp (x232) : List (List AV)) ++ [[AV.int .i64 (x1.f_Op), AV.int .i64 (0), AV.int .i64 (0)]] = List.map encOp (x232 ++ ([(⟨x1.f_Op, 0, 0⟩ : OpS)] : List OpS)) := by first | rfl | (rw [List.map_append]; rfl) | (rw [List.map_append]; done) | (simp only [List.map_append, List.map_cons, List.map_nil, List.nil_append, encOp] <;> rfl)
          have hl234 : List.length (List.map encOp (x232) : List (List AV)) + List.length ([[AV.int .i64 (x1.f_Op), AV.int .i64 (0), AV.int .i64 (0)]] : List (List AV)) = List.length (x232 ++ ([(⟨x1.f_Op, 0, 0⟩ : OpS)] : List OpS)) := by simp only [List.length_map, List.length_append] <;> rfl
          have hl234_b : List.length x232 + List.length ([[AV.int .i64 (x1.f_Op), AV.int .i64 (0), AV.int .i64 (0)]] : List (List AV)) = List.length (x232 ++ ([(⟨x1.f_Op, 0, 0⟩ : OpS)] : List OpS)) := by simp only [List.length_map, List.length_append] <;> rfl
          have hl234_c : List.length x232 + List.length ([(⟨x1.f_Op, 0, 0⟩ : OpS)] : List OpS) = List.length (x232 ++ ([(⟨x1.f_Op, 0, 0⟩ : OpS)] : List OpS)) := by simp only [List.length_map, List.length_append] <;> rfl
          first | simp only [hp233, hl234] | (simp only [List.length_map, take_map_len]; simp only [hp233, hl234_b, hl234_c])
          try simp only [ls]
          conv => lhs; whnf
          have hq := Option.some.inj hm; clear hm; subst hq
          try simp only [ls]
          exact fq (y := some (AV.int .i64 (x230), [Ob.var 87 [AV.sl 5 (List.map c_api_Node (m_l)), AV.func 27 [] [AV.ptr 1 0], AV.row 2 (List.length ((x232 ++ ([(⟨x1.f_Op, 0, 0⟩ : OpS)] : List OpS)))), AV.bool (x231)], Ob.var 23 [AV.sl 1 (List.map encS (o1))], Ob.row 53 3 (List.map encOp (x232 ++ ([(⟨x1.f_Op, 0, 0⟩ : OpS)] : List OpS)))]))
    · simp only [hc213, ls]
      conv => lhs; whnf
      refine bind_some2 hm ?_; clear hm; intro y237 hy237 hm
      have hk238 : call false 27 [AV.agg [AV.int .i64 (x1.f_Op), AV.int .i64 (x1.f_N), AV.str (x1.f_Name), AV.str (x1.f_In), AV.int .i64 (x1.f_At)], AV.ptr 0 0] [Ob.var 23 [AV.sl 1 (List.map encS (o1))]] = some (AV.tup [AV.agg [AV.int .i64 ((y237).1.op), AV.int .i64 ((y237).1.n), AV.int .i64 ((y237).1.t)], AV.bool ((y237).2)], [Ob.var 23 [AV.sl 1 (List.map encS (o1))]]) := (hc _ _ _).trans (ok_code_Thread_1 n x1 o1 y237 hy237)
      try simp only [List.drop_zero, ls]
      first | simp only [hk238] | rewrite [hk238]
      try simp only [ls]
      conv => lhs; whnf
      refine bif_or2 hm ?_ ?_ <;> clear hm <;> intro hc239 hm
      · simp only [hc239, ls]
        conv => lhs; whnf
        refine chk_some2 hm ?_; clear hm; intro hc242 hm
        refine bif_pos (app_row hc242 (by first | rfl | simp only [List.length_map]) (by first | rfl | simp only [List.length_map]) (by first | rfl | simp only [List.length_map, take_map_len]) (by kernel_rfl)) ?_
        try simp only [lt]
        have hp240 : (List.map encOp (m_out) : List (List AV)) ++ [[AV.int .i64 ((y237).1.op), AV.int .i64 ((y237).1.n), AV.int .i64 ((y237).1.t)]] = List.map encOp (m_out ++ ([(y237).1] : List OpS)) := by first | rfl | (rw [List.map_append]; rfl) | (rw [List.map_append]; done) | (simp only [List.map_append, List.map_cons, List.map_nil, List.nil_append, encOp] <;> rfl)
        have hl241 : List.length (List.map encOp (m_out) : List (List AV)) + List.length ([[AV.int .i64 ((y237).1.op), AV.int .i64 ((y237).1.n), AV.int .i64 ((y237).1.t)]] : List (List AV)) = List.length (m_out ++ ([(y237).1] : List OpS)) := by simp only [List.length_map, List.length_append] <;> rfl
        have hl241_b : List.length m_out + List.length ([[AV.int .i64 ((y237).1.op), AV.int .i64 ((y237).1.n), AV.int .i64 ((y237).1.t)]] : List (List AV)) = List.length (m_out ++ ([(y237).1] : List OpS)) := by simp only [List.length_map, List.length_append] <;> rfl
        have hl241_c : List.length m_out + List.length ([(y237).1] : List OpS) = List.length (m_out ++ ([(y237).1] : List OpS)) := by simp only [List.length_map, List.length_append] <;> rfl
        first | simp only [hp240, hl241] | (simp only [List.length_map, take_map_len]; simp only [hp240, hl241_b, hl241_c])
        try simp only [ls]
        conv => lhs; whnf
        have hq := Option.some.inj hm; clear hm; subst hq
        try simp only [ls]
        exact fq (y := some (AV.int .i64 (IntKind.i64.wrap (v1_i + 1)), [Ob.var 87 [AV.sl 5 (List.map c_api_Node (m_l)), AV.func 27 [] [AV.ptr 1 0], AV.row 2 (List.length ((m_out ++ ([(y237).1] : List OpS)))), AV.bool ((y237).2)], Ob.var 23 [AV.sl 1 (List.map encS (o1))], Ob.row 53 3 (List.map encOp (m_out ++ ([(y237).1] : List OpS)))]))
      · simp only [hc239, ls]
        conv => lhs; whnf
        refine chk_some2 hm ?_; clear hm; intro hc245 hm
        refine bif_pos (app_row hc245 (by first | rfl | simp only [List.length_map]) (by first | rfl | simp only [List.length_map]) (by first | rfl | simp only [List.length_map, take_map_len]) (by kernel_rfl)) ?_
        try simp only [lt]
        have hp243 : (List.map encOp (m_out) : List (List AV)) ++ [[AV.int .i64 ((y237).1.op), AV.int .i64 ((y237).1.n), AV.int .i64 ((y237).1.t)]] = List.map encOp (m_out ++ ([(y237).1] : List OpS)) := by first | rfl | (rw [List.map_append]; rfl) | (rw [List.map_append]; done) | (simp only [List.map_append, List.map_cons, List.map_nil, List.nil_append, encOp] <;> rfl)
        have hl244 : List.length (List.map encOp (m_out) : List (List AV)) + List.length ([[AV.int .i64 ((y237).1.op), AV.int .i64 ((y237).1.n), AV.int .i64 ((y237).1.t)]] : List (List AV)) = List.length (m_out ++ ([(y237).1] : List OpS)) := by simp only [List.length_map, List.length_append] <;> rfl
        have hl244_b : List.length m_out + List.length ([[AV.int .i64 ((y237).1.op), AV.int .i64 ((y237).1.n), AV.int .i64 ((y237).1.t)]] : List (List AV)) = List.length (m_out ++ ([(y237).1] : List OpS)) := by simp only [List.length_map, List.length_append] <;> rfl
        have hl244_c : List.length m_out + List.length ([(y237).1] : List OpS) = List.length (m_out ++ ([(y237).1] : List OpS)) := by simp only [List.length_map, List.length_append] <;> rfl
        first | simp only [hp243, hl244] | (simp only [List.length_map, take_map_len]; simp only [hp243, hl244_b, hl244_c])
        try simp only [ls]
        conv => lhs; whnf
        have hq := Option.some.inj hm; clear hm; subst hq
        try simp only [ls]
        exact fq (y := some (AV.int .i64 (IntKind.i64.wrap (v1_i + 1)), [Ob.var 87 [AV.sl 5 (List.map c_api_Node (m_l)), AV.func 27 [] [AV.ptr 1 0], AV.row 2 (List.length ((m_out ++ ([(y237).1] : List OpS)))), AV.bool (false)], Ob.var 23 [AV.sl 1 (List.map encS (o1))], Ob.row 53 3 (List.map encOp (m_out ++ ([(y237).1] : List OpS)))]))
  | c7 y11 =>
    dsimp only at hm
    have hk3 : call false 37 [AV.int .i64 (x1.f_Op)] [] = some (AV.tup [AV.agg [AV.int .i64 ((y11).1), AV.func 53 [] []], AV.bool ((y11).2)], []) := (hc _ _ _).trans (ok_code_of n x1.f_Op (.c7 y11) hy2)
    try simp only [List.drop_zero, ls]
    first | simp only [hk3] | rewrite [hk3]
    try simp only [ls]
    conv => lhs; whnf
    refine bif_or2 hm ?_ ?_ <;> clear hm <;> intro hc246 hm
    · simp only [hc246, ls]
      conv => lhs; whnf
      refine bind_some2 hm ?_; clear hm; intro o258 ho258 hm
      refine rounds_sim (σ := (Int × Int × Bool × (List OpS))) (τ := (Int × Bool × (List OpS))) (ν := (Int × (List OpS) × Bool)) 0 (fun (s247, s248, s249, s250) a252 => stOf 80 [(0, AV.ptr 0 0), (5, AV.ptr 3 0), (10, AV.int .i64 (s247)), (60, AV.int .i64 ((y11).1)), (61, AV.int .i64 (s248))]) (fun (s247, s248, s249, s250) a252 => [Ob.var 87 [AV.sl 5 (List.map c_api_Node (m_l)), AV.func 27 [] [AV.ptr 1 0], AV.row 2 (List.length (s250)), AV.bool (s249)], Ob.var 23 [AV.sl 1 (List.map encS (o1))], Ob.row 53 3 (List.map encOp (s250)), Ob.var 57 [AV.int .i64 (x1.f_Op), AV.int .i64 (x1.f_N), AV.str (x1.f_Name), AV.str (x1.f_In), AV.int .i64 (x1.f_At)], Ob.var 74 [AV.int .i64 ((y11).1), AV.func 53 [] []]]) (fun (x263, x264, x265) a262 => stOf 80 [(0, AV.ptr 0 0), (5, AV.ptr 3 0), (10, AV.int .i64 (x263))]) (fun (x263, x264, x265) a262 => [Ob.var 87 [AV.sl 5 (List.map c_api_Node (m_l)), AV.func 27 [] [AV.ptr 1 0], AV.row 2 (List.length (x265)), AV.bool (x264)], Ob.var 23 [AV.sl 1 (List.map encS (o1))], Ob.row 53 3 (List.map encOp (x265)), Ob.var 57 [AV.int .i64 (x1.f_Op), AV.int .i64 (x1.f_N), AV.str (x1.f_Name), AV.str (x1.f_In), AV.int .i64 (x1.f_At)], Ob.var 74 [AV.int .i64 ((y11).1), AV.func 53 [] []]]) (fun v => (AV.int .i64 ((v).1), [Ob.var 87 [AV.sl 5 (List.map c_api_Node (m_l)), AV.func 27 [] [AV.ptr 1 0], AV.row 2 (List.length ((v).2.1)), AV.bool ((v).2.2)], Ob.var 23 [AV.sl 1 (List.map encS (o1))], Ob.row 53 3 (List.map encOp ((v).2.1))])) (fun k s => code_maker_node_L7 n (m_code_maker_node n) m_l o1 y11 k ((s).1) ((s).2.1) ((s).2.2.1) ((s).2.2.2)) (fun s => rfl) o258 ?_ n (IntKind.i64.wrap (v1_i + 1), 0, m_ok, m_out) (fun _ => 0) _ _ ho258 ?_ (by first | rfl | (simp only [ls, List.map_append, List.map_cons, List.map_nil, List.append_nil, List.length_set, length_copyL] <;> rfl)) (by first | rfl | (simp only [ls, List.map_append, List.map_cons, List.map_nil, List.append_nil, List.length_set, length_copyL] <;> rfl))
      · intro k251 ss a252 K253 cont254 hK255 hcont256 hm hr257
        obtain ⟨s247, s248, s249, s250⟩ := ss
        replace hm : code_maker_node_L7 n (m_code_maker_node n) m_l o1 y11 (k251 + 1) s247 s248 s249 s250 = some o258 := hm
        rw [code_maker_node_L7] at hm
        conv => lhs; whnf
        refine bif_or2 hm ?_ ?_ <;> clear hm <;> intro hc259 hm
        · simp only [hc259, ls]
          conv => lhs; whnf
          refine bind_some2 hm ?_; clear hm; intro y260 hy260 hm
          have hk261 : call false 45 [AV.ptr 0 0, AV.int .i64 (s247)] [Ob.var 87 [AV.sl 5 (List.map c_api_Node (m_l)), AV.func 27 [] [AV.ptr 1 0], AV.row 2 (List.length (s250)), AV.bool (s249)], Ob.var 23 [AV.sl 1 (List.map encS (o1))], Ob.row 53 3 (List.map encOp (s250))] = some (AV.int .i64 ((y260).1), [Ob.var 87 [AV.sl 5 (List.map c_api_Node (m_l)), AV.func 27 [] [AV.ptr 1 0], AV.row 2 (List.length ((y260).2.1)), AV.bool ((y260).2.2)], Ob.var 23 [AV.sl 1 (List.map encS (o1))], Ob.row 53 3 (List.map encOp ((y260).2.1))]) := (hc _ _ _).trans (ih_code_maker_node s247 m_l s250 s249 o1 y260 hy260)
          try simp only [List.drop_zero, ls]
          first | simp only [hk261] | rewrite [hk261]
          try simp only [ls]
          conv => lhs; whnf
          exact cq (hcont256 ((y260).1, IntKind.i64.wrap (s248 + 1), (y260).2.2, (y260).2.1) (fun _ => 0) hm)
        · simp only [hc259, ls]
          conv => lhs; whnf
          have hq := Option.some.inj hm; clear hm; subst hq
          exact kq (hr257 (fun _ => 0))
      · cases o258 with
        | ret v =>
          have hq := Option.some.inj hm; clear hm; subst hq
          rfl
        | out t =>
          obtain ⟨x263, x264, x265⟩ := t
          intro a262
          dsimp only at hm
          conv => lhs; whnf
          refine chk_some2 hm ?_; clear hm; intro hc268 hm
          refine bif_pos (app_row hc268 (by first | rfl | simp only [List.length_map]) (by first | rfl | simp only [List.length_map]) (by first | rfl | simp only [List.length_map, take_map_len]) (by kernel_rfl)) ?_
          try simp only [lt]
          have hp266 : (List.map encOp (x265) : List (List AV)) ++ [[AV.int .i64 (x1.f_Op), AV.int .i64 (0), AV.int .i64 (0)]] = List.map encOp (x265 ++ ([(⟨x1.f_Op, 0, 0⟩ : OpS)] : List OpS)) := by first | rfl | (rw [List.map_append]; rfl) | (rw [List.map_append]; done) | (simp only [List.map_append, List.map_cons, List.map_nil, List.nil_append, encOp] <;> rfl)
          have hl267 : List.length (List.map encOp (x265) : List (List AV)) + List.length ([[AV.int .i64 (x1.f_Op), AV.int .i64 (0), AV.int .i64 (0)]] : List (List AV)) = List.length (x265 ++ ([(⟨x1.f_Op, 0, 0⟩ : OpS)] : List OpS)) := by simp only [List.length_map, List.length_append] <;> rfl
          have hl267_b : List.length x265 + List.length ([[AV.int .i64 (x1.f_Op), AV.int .i64 (0), AV.int .i64 (0)]] : List (List AV)) = List.length (x265 ++ ([(⟨x1.f_Op, 0, 0⟩ : OpS)] : List OpS)) := by simp only [List.length_map, List.length_append] <;> rfl
          have hl267_c : List.length x265 + List.length ([(⟨x1.f_Op, 0, 0⟩ : OpS)] : List OpS) = List.length (x265 ++ ([(⟨x1.f_Op, 0, 0⟩ : OpS)] : List OpS)) := by simp only [List.length_map, List.length_append] <;> rfl
          first | simp only [hp266, hl267] | (simp only [List.length_map, take_map_len]; simp only [hp266, hl267_b, hl267_c])
          try simp only [ls]
          conv => lhs; whnf
          have hq := Option.some.inj hm; clear hm; subst hq
          try simp only [ls]
          exact fq (y := some (AV.int .i64 (x263), [Ob.var 87 [AV.sl 5 (List.map c_api_Node (m_l)), AV.func 27 [] [AV.ptr 1 0], AV.row 2 (List.length ((x265 ++ ([(⟨x1.f_Op, 0, 0⟩ : OpS)] : List OpS)))), AV.bool (x264)], Ob.var 23 [AV.sl 1 (List.map encS (o1))], Ob.row 53 3 (List.map encOp (x265 ++ ([(⟨x1.f_Op, 0, 0⟩ : OpS)] : List OpS)))]))
    · simp only [hc246, ls]
      conv => lhs; whnf
      refine bind_some2 hm ?_; clear hm; intro y270 hy270 hm
      have hk271 : call false 27 [AV.agg [AV.int .i64 (x1.f_Op), AV.int .i64 (x1.f_N), AV.str (x1.f_Name), AV.str (x1.f_In), AV.int .i64 (x1.f_At)], AV.ptr 0 0] [Ob.var 23 [AV.sl 1 (List.map encS (o1))]] = some (AV.tup [AV.agg [AV.int .i64 ((y270).1.op), AV.int .i64 ((y270).1.n), AV.int .i64 ((y270).1.t)], AV.bool ((y270).2)], [Ob.var 23 [AV.sl 1 (List.map encS (o1))]]) := (hc _ _ _).trans (ok_code_Thread_1 n x1 o1 y270 hy270)
      try simp only [List.drop_zero, ls]
      first | simp only [hk271] | rewrite [hk271]
      try simp only [ls]
      conv => lhs; whnf
      refine bif_or2 hm ?_ ?_ <;> clear hm <;> intro hc272 hm
      · simp only [hc272, ls]
        conv => lhs; whnf
        refine chk_some2 hm ?_; clear hm; intro hc275 hm
        refine bif_pos (app_row hc275 (by first | rfl | simp only [List.length_map]) (by first | rfl | simp only [List.length_map]) (by first | rfl | simp only [List.length_map, take_map_len]) (by kernel_rfl)) ?_
        try simp only [lt]
        have hp273 : (List.map encOp (m_out) : List (List AV)) ++ [[AV.int .i64 ((y270).1.op), AV.int .i64 ((y270).1.n), AV.int .i64 ((y270).1.t)]] = List.map encOp (m_out ++ ([(y270).1] : List OpS)) := by first | rfl | (rw [List.map_append]; rfl) | (rw [List.map_append]; done) | (simp only [List.map_append, List.map_cons, List.map_nil, List.nil_append, encOp] <;> rfl)
        have hl274 : List.length (List.map encOp (m_out) : List (List AV)) + List.length ([[AV.int .i64 ((y270).1.op), AV.int .i64 ((y270).1.n), AV.int .i64 ((y270).1.t)]] : List (List AV)) = List.length (m_out ++ ([(y270).1] : List OpS)) := by simp only [List.length_map, List.length_append] <;> rfl
        have hl274_b : List.length m_out + List.length ([[AV.int .i64 ((y270).1.op), AV.int .i64 ((y270).1.n), AV.int .i64 ((y270).1.t)]] : List (List AV)) = List.length (m_out ++ ([(y270).1] : List OpS)) := by simp only [List.length_map, List.length_append] <;> rfl
        have hl274_c : List.length m_out + List.length ([(y270).1] : List OpS) = List.length (m_out ++ ([(y270).1] : List OpS)) := by simp only [List.length_map, List.length_append] <;> rfl
        first | simp only [hp273, hl274] | (simp only [List.length_map, take_map_len]; simp only [hp273, hl274_b, hl274_c])
        try simp only [ls]
        conv => lhs; whnf
        have hq := Option.some.inj hm; clear hm; subst hq
        try simp only [ls]
        exact fq (y := some (AV.int .i64 (IntKind.i64.wrap (v1_i + 1)), [Ob.var 87 [AV.sl 5 (List.map c_api_Node (m_l)), AV.func 27 [] [AV.ptr 1 0], AV.row 2 (List.length ((m_out ++ ([(y270).1] : List OpS)))), AV.bool ((y270).2)], Ob.var 23 [AV.sl 1 (List.map encS (o1))], Ob.row 53 3 (List.map encOp (m_out ++ ([(y270).1] : List OpS)))]))
      · simp only [hc272, ls]
        conv => lhs; whnf
        refine chk_some2 hm ?_; clear hm; intro hc278 hm
        refine bif_pos (app_row hc278 (by first | rfl | simp only [List.length_map]) (by first | rfl | simp only [List.length_map]) (by first | rfl | simp only [List.length_map, take_map_len]) (by kernel_rfl)) ?_
        try simp only [lt]
        have hp276 : (List.map encOp (m_out) : List (List AV)) ++ [[AV.int .i64 ((y270).1.op), AV.int .i64 ((y270).1.n), AV.int .i64 ((y270).1.t)]] = List.map encOp (m_out ++ ([(y270).1] : List OpS)) := by first | rfl | (rw [List.map_append]; rfl) | (rw [List.map_append]; done) | (simp only [List.map_append, List.map_cons, List.map_nil, List.nil_append, encOp] <;> rfl)
        have hl277 : List.length (List.map encOp (m_out) : List (List AV)) + List.length ([[AV.int .i64 ((y270).1.op), AV.int .i64 ((y270).1.n), AV.int .i64 ((y270).1.t)]] : List (List AV)) = List.length (m_out ++ ([(y270).1] : List OpS)) := by simp only [List.length_map, List.length_append] <;> rfl
        have hl277_b : List.length m_out + List.length ([[AV.int .i64 ((y270).1.op), AV.int .i64 ((y270).1.n), AV.int .i64 ((y270).1.t)]] : List (List AV)) = List.length (m_out ++ ([(y270).1] : List OpS)) := by simp only [List.length_map, List.length_append] <;> rfl
        have hl277_c : List.length m_out + List.length ([(y270).1] : List OpS) = List.length (m_out ++ ([(y270).1] : List OpS)) := by simp only [List.length_map, List.length_append] <;> rfl
        first | simp only [hp276, hl277] | (simp only [List.length_map, take_map_len]; simp only [hp276, hl277_b, hl277_c])
        try simp only [ls]
        conv => lhs; whnf
        have hq := Option.some.inj hm; clear hm; subst hq
        try simp only [ls]
        exact fq (y := some (AV.int .i64 (IntKind.i64.wrap (v1_i + 1)), [Ob.var 87 [AV.sl 5 (List.map c_api_Node (m_l)), AV.func 27 [] [AV.ptr 1 0], AV.row 2 (List.length ((m_out ++ ([(y270).1] : List OpS)))), AV.bool (false)], Ob.var 23 [AV.sl 1 (List.map encS (o1))], Ob.row 53 3 (List.map encOp (m_out ++ ([(y270).1] : List OpS)))]))
  | c8 y12 =>
    dsimp only at hm
    have hk3 : call false 37 [AV.int .i64 (x1.f_Op)] [] = some (AV.tup [AV.agg [AV.int .i64 ((y12).1), AV.func 52 [] []], AV.bool ((y12).2)], []) := (hc _ _ _).trans (ok_code_of n x1.f_Op (.c8 y12) hy2)
    try simp only [List.drop_zero, ls]
    first | simp only [hk3] | rewrite [hk3]
    try simp only [ls]
    conv => lhs; whnf
    refine bif_or2 hm ?_ ?_ <;> clear hm <;> intro hc279 hm
    · simp only [hc279, ls]
      conv => lhs; whnf
      refine bind_some2 hm ?_; clear hm; intro o291 ho291 hm
      refine rounds_sim (σ := (Int × Int × Bool × (List OpS))) (τ := (Int × Bool × (List OpS))) (ν := (Int × (List OpS) × Bool)) 0 (fun (s280, s281, s282, s283) a285 => stOf 80 [(0, AV.ptr 0 0), (5, AV.ptr 3 0), (10, AV.int .i64 (s280)), (60, AV.int .i64 ((y12).1)), (61, AV.int .i64 (s281))]) (fun (s280, s281, s282, s283) a285 => [Ob.var 87 [AV.sl 5 (List.map c_api_Node (m_l)), AV.func 27 [] [AV.ptr 1 0], AV.row 2 (List.length (s283)), AV.bool (s282)], Ob.var 23 [AV.sl 1 (List.map encS (o1))], Ob.row 53 3 (List.map encOp (s283)), Ob.var 57 [AV.int .i64 (x1.f_Op), AV.int .i64 (x1.f_N), AV.str (x1.f_Name), AV.str (x1.f_In), AV.int .i64 (x1.f_At)], Ob.var 74 [AV.int .i64 ((y12).1), AV.func 52 [] []]]) (fun (x296, x297, x298) a295 => stOf 80 [(0, AV.ptr 0 0), (5, AV.ptr 3 0), (10, AV.int .i64 (x296))]) (fun (x296, x297, x298) a295 => [Ob.var 87 [AV.sl 5 (List.map c_api_Node (m_l)), AV.func 27 [] [AV.ptr 1 0], AV.row 2 (List.length (x298)), AV.bool (x297)], Ob.var 23 [AV.sl 1 (List.map encS (o1))], Ob.row 53 3 (List.map encOp (x298)), Ob.var 57 [AV.int .i64 (x1.f_Op), AV.int .i64 (x1.f_N), AV.str (x1.f_Name), AV.str (x1.f_In), AV.int .i64 (x1.f_At)], Ob.var 74 [AV.int .i64 ((y12).1), AV.func 52 [] []]]) (fun v => (AV.int .i64 ((v).1), [Ob.var 87 [AV.sl 5 (List.map c_api_Node (m_l)), AV.func 27 [] [AV.ptr 1 0], AV.row 2 (List.length ((v).2.1)), AV.bool ((v).2.2)], Ob.var 23 [AV.sl 1 (List.map encS (o1))], Ob.row 53 3 (List.map encOp ((v).2.1))])) (fun k s => code_maker_node_L8 n (m_code_maker_node n) m_l o1 y12 k ((s).1) ((s).2.1) ((s).2.2.1) ((s).2.2.2)) (fun s => rfl) o291 ?_ n (IntKind.i64.wrap (v1_i + 1), 0, m_ok, m_out) (fun _ => 0) _ _ ho291 ?_ (by first | rfl | (simp only [ls, List.map_append, List.map_cons, List.map_nil, List.append_nil, List.length_set, length_copyL] <;> rfl)) (by first | rfl | (simp only [ls, List.map_append, List.map_cons, List.map_nil, List.append_nil, List.length_set, length_copyL] <;> rfl))
      · intro k284 ss a285 K286 cont287 hK288 hcont289 hm hr290
        obtain ⟨s280, s281, s282, s283⟩ := ss
        replace hm : code_maker_node_L8 n (m_code_maker_node n) m_l o1 y12 (k284 + 1) s280 s281 s282 s283 = some o291 := hm
        rw [code_maker_node_L8] at hm
        conv => lhs; whnf
        refine bif_or2 hm ?_ ?_ <;> clear hm <;> intro hc292 hm
        · simp only [hc292, ls]
          conv => lhs; whnf
          refine bind_some2 hm ?_; clear hm; intro y293 hy293 hm
          have hk294 : call false 45 [AV.ptr 0 0, AV.int .i64 (s280)] [Ob.var 87 [AV.sl 5 (List.map c_api_Node (m_l)), AV.func 27 [] [AV.ptr 1 0], AV.row 2 (List.length (s283)), AV.bool (s282)], Ob.var 23 [AV.sl 1 (List.map encS (o1))], Ob.row 53 3 (List.map encOp (s283))] = some (AV.int .i64 ((y293).1), [Ob.var 87 [AV.sl 5 (List.map c_api_Node (m_l)), AV.func 27 [] [AV.ptr 1 0], AV.row 2 (List.length ((y293).2.1)), AV.bool ((y293).2.2)], Ob.var 23 [AV.sl 1 (List.map encS (o1))], Ob.row 53 3 (List.map encOp ((y293).2.1))]) := (hc _ _ _).trans (ih_code_maker_node s280 m_l s283 s282 o1 y293 hy293)
          try simp only [List.drop_zero, ls]
          first | simp only [hk294] | rewrite [hk294]
          try simp only [ls]
          conv => lhs; whnf
          exact cq (hcont289 ((y293).1, IntKind.i64.wrap (s281 + 1), (y293).2.2, (y293).2.1) (fun _ => 0) hm)
        · simp only [hc292, ls]
          conv => lhs; whnf
          have hq := Option.some.inj hm; clear hm; subst hq
          exact kq (hr290 (fun _ => 0))
      · cases o291 with
        | ret v =>
          have hq := Option.some.inj hm; clear hm; subst hq
          rfl
        | out t =>
          obtain ⟨x296, x297, x298⟩ := t
          intro a295
          dsimp only at hm
          conv => lhs; whnf
          refine chk_some2 hm ?_; clear hm; intro hc301 hm
          refine bif_pos (app_row hc301 (by first | rfl | simp only [List.length_map]) (by first | rfl | simp only [List.length_map]) (by first | rfl | simp only [List.length_map, take_map_len]) (by kernel_rfl)) ?_
          try simp only [lt]
          have hp299 : (List.map encOp (x298) : List (List AV)) ++ [[AV.int .i64 (x1.f_Op), AV.int .i64 (0), AV.int .i64 (0)]] = List.map encOp (x298 ++ ([(⟨x1.f_Op, 0, 0⟩ : OpS)] : List OpS)) := by first | rfl | (rw [List.map_append]; rfl) | (rw [List.map_append]; done) | (simp only [List.map_append, List.map_cons, List.map_nil, List.nil_append, encOp] <;> rfl)
          have hl300 : List.length (List.map encOp (x298) : List (List AV)) + List.length ([[AV.int .i64 (x1.f_Op), AV.int .i64 (0), AV.int .i64 (0)]] : List (List AV)) = List.length (x298 ++ ([(⟨x1.f_Op, 0, 0⟩ : OpS)] : List OpS)) := by simp only [List.length_map, List.length_append] <;> rfl
          have hl300_b : List.length x298 + List.length ([[AV.int .i64 (x1.f_Op), AV.int .i64 (0), AV.int .i64 (0)]] : List (List AV)) = List.length (x298 ++ ([(⟨x1.f_Op, 0, 0⟩ : OpS)] : List OpS)) := by simp only [List.length_map, List.length_append] <;> rfl
          have hl300_c : List.length x298 + List.length ([(⟨x1.f_Op, 0, 0⟩ : OpS)] : List OpS) = List.length (x298 ++ ([(⟨x1.f_Op, 0, 0⟩ : OpS)] : List OpS)) := by simp only [List.length_map, List.length_append] <;> rfl
          first | simp only [hp299, hl300] | (simp only [List.length_map, take_map_len]; simp only [hp299, hl300_b, hl300_c])
          try simp only [ls]
          conv => lhs; whnf
          have hq := Option.some.inj hm; clear hm; subst hq
          try simp only [ls]
          exact fq (y := some (AV.int .i64 (x296), [Ob.var 87 [AV.sl 5 (List.map c_api_Node (m_l)), AV.func 27 [] [AV.ptr 1 0], AV.row 2 (List.length ((x298 ++ ([(⟨x1.f_Op, 0, 0⟩ : OpS)] : List OpS)))), AV.bool (x297)], Ob.var 23 [AV.sl 1 (List.map encS (o1))], Ob.row 53 3 (List.map encOp (x298 ++ ([(⟨x1.f_Op, 0, 0⟩ : OpS)] : List OpS)))]))
    · simp only [hc279, ls]
      conv => lhs; whnf
      refine bind_some2 hm ?_; clear hm; intro y303 hy303 hm
      have hk304 : call false 27 [AV.agg [AV.int .i64 (x1.f_Op), AV.int .i64 (x1.f_N), AV.str (x1.f_Name), AV.str (x1.f_In), AV.int .i64 (x1.f_At)], AV.ptr 0 0] [Ob.var 23 [AV.sl 1 (List.map encS (o1))]] = some (AV.tup [AV.agg [AV.int .i64 ((y303).1.op), AV.int .i64 ((y303).1.n), AV.int .i64 ((y303).1.t)], AV.bool ((y303).2)], [Ob.var 23 [AV.sl 1 (List.map encS (o1))]]) := (hc _ _ _).trans (ok_code_Thread_1 n x1 o1 y303 hy303)
      try simp only [List.drop_zero, ls]
      first | simp only [hk304] | rewrite [hk304]
      try simp only [ls]
      conv => lhs; whnf
      refine bif_or2 hm ?_ ?_ <;> clear hm <;> intro hc305 hm
      · simp only [hc305, ls]
        conv => lhs; whnf
        refine chk_some2 hm ?_; clear hm; intro hc308 hm
        refine bif_pos (app_row hc308 (by first | rfl | simp only [List.length_map]) (by first | rfl | simp only [List.length_map]) (by first | rfl | simp only [List.length_map, take_map_len]) (by kernel_rfl)) ?_
        try simp only [lt]
        have hp306 : (List.map encOp (m_out) : List (List AV)) ++ [[AV.int .i64 ((y303).1.op), AV.int .i64 ((y303).1.n), AV.int .i64 ((y303).1.t)]] = List.map encOp (m_out ++ ([(y303).1] : List OpS)) := by first | rfl | (rw [List.map_append]; rfl) | (rw [List.map_append]; done) | (simp only [List.map_append, List.map_cons, List.map_nil, List.nil_append, encOp] <;> rfl)
        have hl307 : List.length (List.map encOp (m_out) : List (List AV)) + List.length ([[AV.int .i64 ((y303).1.op), AV.int .i64 ((y303).1.n), AV.int .i64 ((y303).1.t)]] : List (List AV)) = List.length (m_out ++ ([(y303).1] : List OpS)) := by simp only [List.length_map, List.length_append] <;> rfl
        have hl307_b : List.length m_out + List.length ([[AV.int .i64 ((y303).1.op), AV.int .i64 ((y303).1.n), AV.int .i64 ((y303).1.t)]] : List (List AV)) = List.length (m_out ++ ([(y303).1] : List OpS)) := by simp only [List.length_map, List.length_append] <;> rfl
        have hl307_c : List.length m_out + List.length ([(y303).1] : List OpS) = List.length (m_out ++ ([(y303).1] : List OpS)) := by simp only [List.length_map, List.length_append] <;> rfl
        first | simp only [hp306, hl307] | (simp only [List.length_map, take_map_len]; simp only [hp306, hl307_b, hl307_c])
        try simp only [ls]
        conv => lhs; whnf
        have hq := Option.some.inj hm; clear hm; subst hq
        try simp only [ls]
        exact fq (y := some (AV.int .i64 (IntKind.i64.wrap (v1_i + 1)), [Ob.var 87 [AV.sl 5 (List.map c_api_Node (m_l)), AV.func 27 [] [AV.ptr 1 0], AV.row 2 (List.length ((m_out ++ ([(y303).1] : List OpS)))), AV.bool ((y303).2)], Ob.var 23 [AV.sl 1 (List.map encS (o1))], Ob.row 53 3 (List.map encOp (m_out ++ ([(y303).1] : List OpS)))]))
      · simp only [hc305, ls]
        conv => lhs; whnf
        refine chk_some2 hm ?_; clear hm; intro hc311 hm
        refine bif_pos (app_row hc311 (by first | rfl | simp only [List.length_map]) (by first | rfl | simp only [List.length_map]) (by first | rfl | simp only [List.length_map, take_map_len]) (by kernel_rfl)) ?_
        try simp only [lt]
        have hp309 : (List.map encOp (m_out) : List (List AV)) ++ [[AV.int .i64 ((y303).1.op), AV.int .i64 ((y303).1.n), AV.int .i64 ((y303).1.t)]] = List.map encOp (m_out ++ ([(y303).1] : List OpS)) := by first | rfl | (rw [List.map_append]; rfl) | (rw [List.map_append]; done) | (simp only [List.map_append, List.map_cons, List.map_nil, List.nil_append, encOp] <;> rfl)
        have hl310 : List.length (List.map encOp (m_out) : List (List AV)) + List.length ([[AV.int .i64 ((y303).1.op), AV.int .i64 ((y303).1.n), AV.int .i64 ((y303).1.t)]] : List (List AV)) = List.length (m_out ++ ([(y303).1] : List OpS)) := by simp only [List.length_map, List.length_append] <;> rfl
        have hl310_b : List.length m_out + List.length ([[AV.int .i64 ((y303).1.op), AV.int .i64 ((y303).1.n), AV.int .i64 ((y303).1.t)]] : List (List AV)) = List.length (m_out ++ ([(y303).1] : List OpS)) := by simp only [List.length_map, List.length_append] <;> rfl
        have hl310_c : List.length m_out + List.length ([(y303).1] : List OpS) = List.length (m_out ++ ([(y303).1] : List OpS)) := by simp only [List.length_map, List.length_append] <;> rfl
        first | simp only [hp309, hl310] | (simp only [List.length_map, take_map_len]; simp only [hp309, hl310_b, hl310_c])
        try simp only [ls]
        conv => lhs; whnf
        have hq := Option.some.inj hm; clear hm; subst hq
        try simp only [ls]
        exact fq (y := some (AV.int .i64 (IntKind.i64.wrap (v1_i + 1)), [Ob.var 87 [AV.sl 5 (List.map c_api_Node (m_l)), AV.func 27 [] [AV.ptr 1 0], AV.row 2 (List.length ((m_out ++ ([(y303).1] : List OpS)))), AV.bool (false)], Ob.var 23 [AV.sl 1 (List.map encS (o1))], Ob.row 53 3 (List.map encOp (m_out ++ ([(y303).1] : List OpS)))]))
  | c9 y13 =>
    dsimp only at hm
    have hk3 : call false 37 [AV.int .i64 (x1.f_Op)] [] = some (AV.tup [AV.agg [AV.int .i64 ((y13).1), AV.func 51 [] []], AV.bool ((y13).2)], []) := (hc _ _ _).trans (ok_code_of n x1.f_Op (.c9 y13) hy2)
    try simp only [List.drop_zero, ls]
    first | simp only [hk3] | rewrite [hk3]
    try simp only [ls]
    conv => lhs; whnf
    refine bif_or2 hm ?_ ?_ <;> clear hm <;> intro hc312 hm
    · simp only [hc312, ls]
      conv => lhs; whnf
      refine bind_some2 hm ?_; clear hm; intro o324 ho324 hm
      refine rounds_sim (σ := (Int × Int × Bool × (List OpS))) (τ := (Int × Bool × (List OpS))) (ν := (Int × (List OpS) × Bool)) 0 (fun (s313, s314, s315, s316) a318 => stOf 80 [(0, AV.ptr 0 0), (5, AV.ptr 3 0), (10, AV.int .i64 (s313)), (60, AV.int .i64 ((y13).1)), (61, AV.int .i64 (s314))]) (fun (s313, s314, s315, s316) a318 => [Ob.var 87 [AV.sl 5 (List.map c_api_Node (m_l)), AV.func 27 [] [AV.ptr 1 0], AV.row 2 (List.length (s316)), AV.bool (s315)], Ob.var 23 [AV.sl 1 (List.map encS (o1))], Ob.row 53 3 (List.map encOp (s316)), Ob.var 57 [AV.int .i64 (x1.f_Op), AV.int .i64 (x1.f_N), AV.str (x1.f_Name), AV.str (x1.f_In), AV.int .i64 (x1.f_At)], Ob.var 74 [AV.int .i64 ((y13).1), AV.func 51 [] []]]) (fun (x329, x330, x331) a328 => stOf 80 [(0, AV.ptr 0 0), (5, AV.ptr 3 0), (10, AV.int .i64 (x329))]) (fun (x329, x330, x331) a328 => [Ob.var 87 [AV.sl 5 (List.map c_api_Node (m_l)), AV.func 27 [] [AV.ptr 1 0], AV.row 2 (List.length (x331)), AV.bool (x330)], Ob.var 23 [AV.sl 1 (List.map encS (o1))], Ob.row 53 3 (List.map encOp (x331)), Ob.var 57 [AV.int .i64 (x1.f_Op), AV.int .i64 (x1.f_N), AV.str (x1.f_Name), AV.str (x1.f_In), AV.int .i64 (x1.f_At)], Ob.var 74 [AV.int .i64 ((y13).1), AV.func 51 [] []]]) (fun v => (AV.int .i64 ((v).1), [Ob.var 87 [AV.sl 5 (List.map c_api_Node (m_l)), AV.func 27 [] [AV.ptr 1 0], AV.row 2 (List.length ((v).2.1)), AV.bool ((v).2.2)], Ob.var 23 [AV.sl 1 (List.map encS (o1))], Ob.row 53 3 (List.map encOp ((v).2.1))])) (fun k s => code_maker_node_L9 n (m_code_maker_node n) m_l o1 y13 k ((s).1) ((s).2.1) ((s).2.2.1) ((s).2.2.2)) (fun s => rfl) o324 ?_ n (IntKind.i64.wrap (v1_i + 1), 0, m_ok, m_out) (fun _ => 0) _ _ ho324 ?_ (by first | rfl | (simp only [ls, List.map_append, List.map_cons, List.map_nil, List.append_nil, List.length_set, length_copyL] <;> rfl)) (by first | rfl | (simp only [ls, List.map_append, List.map_cons, List.map_nil, List.append_nil, List.length_set, length_copyL] <;> rfl))
      · intro k317 ss a318 K319 cont320 hK321 hcont322 hm hr323
        obtain ⟨s313, s314, s315, s316⟩ := ss
        replace hm : code_maker_node_L9 n (m_code_maker_node n) m_l o1 y13 (k317 + 1) s313 s314 s315 s316 = some o324 := hm
        rw [code_maker_node_L9] at hm
        conv => lhs; whnf
        refine bif_or2 hm ?_ ?_ <;> clear hm <;> intro hc325 hm
        · simp only [hc325, ls]
          conv => lhs; whnf
          refine bind_some2 hm ?_; clear hm; intro y326 hy326 hm
          have hk327 : call false 45 [AV.ptr 0 0, AV.int .i64 (s313)] [Ob.var 87 [AV.sl 5 (List.map c_api_Node (m_l)), AV.func 27 [] [AV.ptr 1 0], AV.row 2 (List.length (s316)), AV.bool (s315)], Ob.var 23 [AV.sl 1 (List.map encS (o1))], Ob.row 53 3 (List.map encOp (s316))] = some (AV.int .i64 ((y326).1), [Ob.var 87 [AV.sl 5 (List.map c_api_Node (m_l)), AV.func 27 [] [AV.ptr 1 0], AV.row 2 (List.length ((y326).2.1)), AV.bool ((y326).2.2)], Ob.var 23 [AV.sl 1 (List.map encS (o1))], Ob.row 53 3 (List.map encOp ((y326).2.1))]) := (hc _ _ _).trans (ih_code_maker_node s313 m_l s316 s315 o1 y326 hy326)
          try simp only [List.drop_zero, ls]
          first | simp only [hk327] | rewrite [hk327]
          try simp only [ls]
          conv => lhs; whnf
          exact cq (hcont322 ((y326).1, IntKind.i64.wrap (s314 + 1), (y326).2.2, (y326).2.1) (fun _ => 0) hm)
        · simp only [hc325, ls]
          conv => lhs; whnf
          have hq := Option.some.inj hm; clear hm; subst hq
          exact kq (hr323 (fun _ => 0))
      · cases o324 with
        | ret v =>
          have hq := Option.some.inj hm; clear hm; subst hq
          rfl
        | out t =>
          obtain ⟨x329, x330, x331⟩ := t
          intro a328
          dsimp only at hm
          conv => lhs; whnf
          refine chk_some2 hm ?_; clear hm; intro hc334 hm
          refine bif_pos (app_row hc334 (by first | rfl | simp only [List.length_map]) (by first | rfl | simp only [List.length_map]) (by first | rfl | simp only [List.length_map, take_map_len]) (by kernel_rfl)) ?_
          try simp only [lt]
          have hp332 : (List.map encOp (x331) : List (List AV)) ++ [[AV.int .i64 (x1.f_Op), AV.int .i64 (0), AV.int .i64 (0)]] = List.map encOp (x331 ++ ([(⟨x1.f_Op, 0, 0⟩ : OpS)] : List OpS)) := by first | rfl | (rw [List.map_append]; rfl) | (rw [List.map_append]; done) | (simp only [List.map_append, List.map_cons, List.map_nil, List.nil_append, encOp] <;> rfl)
          have hl333 : List.length (List.map encOp (x331) : List (List AV)) + List.length ([[AV.int .i64 (x1.f_Op), AV.int .i64 (0), AV.int .i64 (0)]] : List (List AV)) = List.length (x331 ++ ([(⟨x1.f_Op, 0, 0⟩ : OpS)] : List OpS)) := by simp only [List.length_map, List.length_append] <;> rfl
          have hl333_b : List.length x331 + List.length ([[AV.int .i64 (x1.f_Op), AV.int .i64 (0), AV.int .i64 (0)]] : List (List AV)) = List.length (x331 ++ ([(⟨x1.f_Op, 0, 0⟩ : OpS)] : List OpS)) := by simp only [List.length_map, List.length_append] <;> rfl
          have hl333_c : List.length x331 + List.length ([(⟨x1.f_Op, 0, 0⟩ : OpS)] : List OpS) = List.length (x331 ++ ([(⟨x1.f_Op, 0, 0⟩ : OpS)] : List OpS)) := by simp only [List.length_map, List.length_append] <;> rfl
          first | simp only [hp332, hl333] | (simp only [List.length_map, take_map_len]; simp only [hp332, hl333_b, hl333_c])
          try simp only [ls]
          conv => lhs; whnf
          have hq := Option.some.inj hm; clear hm; subst hq
          try simp only [ls]
          exact fq (y := some (AV.int .i64 (x329), [Ob.var 87 [AV.sl 5 (List.map c_api_Node (m_l)), AV.func 27 [] [AV.ptr 1 0], AV.row 2 (List.length ((x331 ++ ([(⟨x1.f_Op, 0, 0⟩ : OpS)] : List OpS)))), AV.bool (x330)], Ob.var 23 [AV.sl 1 (List.map encS (o1))], Ob.row 53 3 (List.map encOp (x331 ++ ([(⟨x1.f_Op, 0, 0⟩ : OpS)] : List OpS)))]))
    · simp only [hc312, ls]
      conv => lhs; whnf
      refine bind_some2 hm ?_; clear hm; intro y336 hy336 hm
      have hk337 : call false 27 [AV.agg [AV.int .i64 (x1.f_Op), AV.int .i64 (x1.f_N), AV.str (x1.f_Name), AV.str (x1.f_In), AV.int .i64 (x1.f_At)], AV.ptr 0 0] [Ob.var 23 [AV.sl 1 (List.map encS (o1))]] = some (AV.tup [AV.agg [AV.int .i64 ((y336).1.op), AV.int .i64 ((y336).1.n), AV.int .i64 ((y336).1.t)], AV.bool ((y336).2)], [Ob.var 23 [AV.sl 1 (List.map encS (o1))]]) := (hc _ _ _).trans (ok_code_Thread_1 n x1 o1 y336 hy336)
      try simp only [List.drop_zero, ls]
      first | simp only [hk337] | rewrite [hk337]
      try simp only [ls]
      conv => lhs; whnf
      refine bif_or2 hm ?_ ?_ <;> clear hm <;> intro hc338 hm
      · simp only [hc338, ls]
        conv => lhs; whnf
        refine chk_some2 hm ?_; clear hm; intro hc341 hm
        refine bif_pos (app_row hc341 (by first | rfl | simp only [List.length_map]) (by first | rfl | simp only [List.length_map]) (by first | rfl | simp only [List.length_map, take_map_len]) (by kernel_rfl)) ?_
        try simp only [lt]
        have hp339 : (List.map encOp (m_out) : List (List AV)) ++ [[AV.int .i64 ((y336).1.op), AV.int .i64 ((y336).1.n), AV.int .i64 ((y336).1.t)]] = List.map encOp (m_out ++ ([(y336).1] : List OpS)) := by first | rfl | (rw [List.map_append]; rfl) | (rw [List.map_append]; done) | (simp only [List.map_append, List.map_cons, List.map_nil, List.nil_append, encOp] <;> rfl)
        have hl340 : List.length (List.map encOp (m_out) : List (List AV)) + List.length ([[AV.int .i64 ((y336).1.op), AV.int .i64 ((y336).1.n), AV.int .i64 ((y336).1.t)]] : List (List AV)) = List.length (m_out ++ ([(y336).1] : List OpS)) := by simp only [List.length_map, List.length_append] <;> rfl
        have hl340_b : List.length m_out + List.length ([[AV.int .i64 ((y336).1.op), AV.int .i64 ((y336).1.n), AV.int .i64 ((y336).1.t)]] : List (List AV)) = List.length (m_out ++ ([(y336).1] : List OpS)) := by simp only [List.length_map, List.length_append] <;> rfl
        have hl340_c : List.length m_out + List.length ([(y336).1] : List OpS) = List.length (m_out ++ ([(y336).1] : List OpS)) := by simp only [List.length_map, List.length_append] <;> rfl
        first | simp only [hp339, hl340] | (simp only [List.length_map, take_map_len]; simp only [hp339, hl340_b, hl340_c])
        try simp only [ls]
        conv => lhs; whnf
        have hq := Option.some.inj hm; clear hm; subst hq
        try simp only [ls]
        exact fq (y := some (AV.int .i64 (IntKind.i64.wrap (v1_i + 1)), [Ob.var 87 [AV.sl 5 (List.map c_api_Node (m_l)), AV.func 27 [] [AV.ptr 1 0], AV.row 2 (List.length ((m_out ++ ([(y336).1] : List OpS)))), AV.bool ((y336).2)], Ob.var 23 [AV.sl 1 (List.map encS (o1))], Ob.row 53 3 (List.map encOp (m_out ++ ([(y336).1] : List OpS)))]))
      · simp only [hc338, ls]
        conv => lhs; whnf
        refine chk_some2 hm ?_; clear hm; intro hc344 hm
        refine bif_pos (app_row hc344 (by first | rfl | simp only [List.length_map]) (by first | rfl | simp only [List.length_map]) (by first | rfl | simp only [List.length_map, take_map_len]) (by kernel_rfl)) ?_
        try simp only [lt]
        have hp342 : (List.map encOp (m_out) : List (List AV)) ++ [[AV.int .i64 ((y336).1.op), AV.int .i64 ((y336).1.n), AV.int .i64 ((y336).1.t)]] = List.map encOp (m_out ++ ([(y336).1] : List OpS)) := by first | rfl | (rw [List.map_append]; rfl) | (rw [List.map_append]; done) | (simp only [List.map_append, List.map_cons, List.map_nil, List.nil_append, encOp] <;> rfl)
        have hl343 : List.length (List.map encOp (m_out) : List (List AV)) + List.length ([[AV.int .i64 ((y336).1.op), AV.int .i64 ((y336).1.n), AV.int .i64 ((y336).1.t)]] : List (List AV)) = List.length (m_out ++ ([(y336).1] : List OpS)) := by simp only [List.length_map, List.length_append] <;> rfl
        have hl343_b : List.length m_out + List.length ([[AV.int .i64 ((y336).1.op), AV.int .i64 ((y336).1.n), AV.int .i64 ((y336).1.t)]] : List (List AV)) = List.length (m_out ++ ([(y336).1] : List OpS)) := by simp only [List.length_map, List.length_append] <;> rfl
        have hl343_c : List.length m_out + List.length ([(y336).1] : List OpS) = List.length (m_out ++ ([(y336).1] : List OpS)) := by simp only [List.length_map, List.length_append] <;> rfl
        first | simp only [hp342, hl343] | (simp only [List.length_map, take_map_len]; simp only [hp342, hl343_b, hl343_c])
        try simp only [ls]
        conv => lhs; whnf
        have hq := Option.some.inj hm; clear hm; subst hq
        try simp only [ls]
        exact fq (y := some (AV.int .i64 (IntKind.i64.wrap (v1_i + 1)), [Ob.var 87 [AV.sl 5 (List.map c_api_Node (m_l)), AV.func 27 [] [AV.ptr 1 0], AV.row 2 (List.length ((m_out ++ ([(y336).1] : List OpS)))), AV.bool (false)], Ob.var 23 [AV.sl 1 (List.map encS (o1))], Ob.row 53 3 (List.map encOp (m_out ++ ([(y336).1] : List OpS)))]))
  | c10 y14 =>
    dsimp only at hm
    have hk3 : call false 37 [AV.int .i64 (x1.f_Op)] [] = some (AV.tup [AV.agg [AV.int .i64 ((y14).1), AV.func 49 [] []], AV.bool ((y14).2)], []) := (hc _ _ _).trans (ok_code_of n x1.f_Op (.c10 y14) hy2)
    try simp only [List.drop_zero, ls]
    first | simp only [hk3] | rewrite [hk3]
    try simp only [ls]
    conv => lhs; whnf
    refine bif_or2 hm ?_ ?_ <;> clear hm <;> intro hc345 hm
    · simp only [hc345, ls]
      conv => lhs; whnf
      refine bind_some2 hm ?_; clear hm; intro o357 ho357 hm
      refine rounds_sim (σ := (Int × Int × Bool × (List OpS))) (τ := (Int × Bool × (List OpS))) (ν := (Int × (List OpS) × Bool)) 0 (fun (s346, s347, s348, s349) a351 => stOf 80 [(0, AV.ptr 0 0), (5, AV.ptr 3 0), (10, AV.int .i64 (s346)), (60, AV.int .i64 ((y14).1)), (61, AV.int .i64 (s347))]) (fun (s346, s347, s348, s349) a351 => [Ob.var 87 [AV.sl 5 (List.map c_api_Node (m_l)), AV.func 27 [] [AV.ptr 1 0], AV.row 2 (List.length (s349)), AV.bool (s348)], Ob.var 23 [AV.sl 1 (List.map encS (o1))], Ob.row 53 3 (List.map encOp (s349)), Ob.var 57 [AV.int .i64 (x1.f_Op), AV.int .i64 (x1.f_N), AV.str (x1.f_Name), AV.str (x1.f_In), AV.int .i64 (x1.f_At)], Ob.var 74 [AV.int .i64 ((y14).1), AV.func 49 [] []]]) (fun (x362, x363, x364) a361 => stOf 80 [(0, AV.ptr 0 0), (5, AV.ptr 3 0), (10, AV.int .i64 (x362))]) (fun (x362, x363, x364) a361 => [Ob.var 87 [AV.sl 5 (List.map c_api_Node (m_l)), AV.func 27 [] [AV.ptr 1 0], AV.row 2 (List.length (x364)), AV.bool (x363)], Ob.var 23 [AV.sl 1 (List.map encS (o1))], Ob.row 53 3 (List.map encOp (x364)), Ob.var 57 [AV.int .i64 (x1.f_Op), AV.int .i64 (x1.f_N), AV.str (x1.f_Name), AV.str (x1.f_In), AV.int .i64 (x1.f_At)], Ob.var 74 [AV.int .i64 ((y14).1), AV.func 49 [] []]]) (fun v => (AV.int .i64 ((v).1), [Ob.var 87 [AV.sl 5 (List.map c_api_Node (m_l)), AV.func 27 [] [AV.ptr 1 0], AV.row 2 (List.length ((v).2.1)), AV.bool ((v).2.2)], Ob.var 23 [AV.sl 1 (List.map encS (o1))], Ob.row 53 3 (List.map encOp ((v).2.1))])) (fun k s => code_maker_node_L10 n (m_code_maker_node n) m_l o1 y14 k ((s).1) ((s).2.1) ((s).2.2.1) ((s).2.2.2)) (fun s => rfl) o357 ?_ n (IntKind.i64.wrap (v1_i + 1), 0, m_ok, m_out) (fun _ => 0) _ _ ho357 ?_ (by first | rfl | (simp only [ls, List.map_append, List.map_cons, List.map_nil, List.append_nil, List.length_set, length_copyL] <;> rfl)) (by first | rfl | (simp only [ls, List.map_append, List.map_cons, List.map_nil, List.append_nil, List.length_set, length_copyL] <;> rfl))
      · intro k350 ss a351 K352 cont353 hK354 hcont355 hm hr356
        obtain ⟨s346, s347, s348, s349⟩ := ss
        replace hm : code_maker_node_L10 n (m_code_maker_node n) m_l o1 y14 (k350 + 1) s346 s347 s348 s349 = some o357 := hm
        rw [code_maker_node_L10] at hm
        conv => lhs; whnf
        refine bif_or2 hm ?_ ?_ <;> clear hm <;> intro hc358 hm
        · simp only [hc358, ls]
          conv => lhs; whnf
          refine bind_some2 hm ?_; clear hm; intro y359 hy359 hm
          have hk360 : call false 45 [AV.ptr 0 0, AV.int .i64 (s346)] [Ob.var 87 [AV.sl 5 (List.map c_api_Node (m_l)), AV.func 27 [] [AV.ptr 1 0], AV.row 2 (List.length (s349)), AV.bool (s348)], Ob.var 23 [AV.sl 1 (List.map encS (o1))], Ob.row 53 3 (List.map encOp (s349))] = some (AV.int .i64 ((y359).1), [Ob.var 87 [AV.sl 5 (List.map c_api_Node (m_l)), AV.func 27 [] [AV.ptr 1 0], AV.row 2 (List.length ((y359).2.1)), AV.bool ((y359).2.2)], Ob.var 23 [AV.sl 1 (List.map encS (o1))], Ob.row 53 3 (List.map encOp ((y359).2.1))]) := (hc _ _ _).trans (ih_code_maker_node s346 m_l s349 s348 o1 y359 hy359)
          try simp only [List.drop_zero, ls]
          first | simp only [hk360] | rewrite [hk360]
          try simp only [ls]
          conv => lhs; whnf
          exact cq (hcont355 ((y359).1, IntKind.i64.wrap (s347 + 1), (y359).2.2, (y359).2.1) (fun _ => 0) hm)
        · simp only [hc358, ls]
          conv => lhs; whnf
          have hq := Option.some.inj hm; clear hm; subst hq
          exact kq (hr356 (fun _ => 0))
      · cases o357 with
        | ret v =>
          have hq := Option.some.inj hm; clear hm; subst hq
          rfl
        | out t =>
          obtain ⟨x362, x363, x364⟩ := t
          intro a361
          dsimp only at hm
          conv => lhs; whnf
          refine chk_some2 hm ?_; clear hm; intro hc367 hm
          refine bif_pos (app_row hc367 (by first | rfl | simp only [List.length_map]) (by first | rfl | simp only [List.length_map]) (by first | rfl | simp only [List.length_map, take_map_len]) (by kernel_rfl)) ?_
          try simp only [lt]
          have hp365 : (List.map encOp (x364) : List (List AV)) ++ [[AV.int .i64 (x1.f_Op), AV.int .i64 (0), AV.int .i64 (0)]] = List.map encOp (x364 ++ ([(⟨x1.f_Op, 0, 0⟩ : OpS)] : List OpS)) := by first | rfl | (rw [List.map_append]; rfl) | (rw [List.map_append]; done) | (simp only [List.map_append, List.map_cons, List.map_nil, List.nil_append, encOp] <;> rfl)
          have hl366 : List.length (List.map encOp (x364) : List (List AV)) + List.length ([[AV.int .i64 (x1.f_Op), AV.int .i64 (0), AV.int .i64 (0)]] : List (List AV)) = List.length (x364 ++ ([(⟨x1.f_Op, 0, 0⟩ : OpS)] : List OpS)) := by simp only [List.length_map, List.length_append] <;> rfl
          have hl366_b : List.length x364 + List.length ([[AV.int .i64 (x1.f_Op), AV.int .i64 (0), AV.int .i64 (0)]] : List (List AV)) = List.length (x364 ++ ([(⟨x1.f_Op, 0, 0⟩ : OpS)] : List OpS)) := by simp only [List.length_map, List.length_append] <;> rfl
          have hl366_c : List.length x364 + List.length ([(⟨x1.f_Op, 0, 0⟩ : OpS)] : List OpS) = List.length (x364 ++ ([(⟨x1.f_Op, 0, 0⟩ : OpS)] : List OpS)) := by simp only [List.length_map, List.length_append] <;> rfl
          first | simp only [hp365, hl366] | (simp only [List.length_map, take_map_len]; simp only [hp365, hl366_b, hl366_c])
          try simp only [ls]
          conv => lhs; whnf
          have hq := Option.some.inj hm; clear hm; subst hq
          try simp only [ls]
          exact fq (y := some (AV.int .i64 (x362), [Ob.var 87 [AV.sl 5 (List.map c_api_Node (m_l)), AV.func 27 [] [AV.ptr 1 0], AV.row 2 (List.length ((x364 ++ ([(⟨x1.f_Op, 0, 0⟩ : OpS)] : List OpS)))), AV.bool (x363)], Ob.var 23 [AV.sl 1 (List.map encS (o1))], Ob.row 53 3 (List.map encOp (x364 ++ ([(⟨x1.f_Op, 0, 0⟩ : OpS)] : List OpS)))]))
    · simp only [hc345, ls]
      conv => lhs; whnf
      refine bind_some2 hm ?_; clear hm; intro y369 hy369 hm
      have hk370 : call false 27 [AV.agg [AV.int .i64 (x1.f_Op), AV.int .i64 (x1.f_N), AV.str (x1.f_Name), AV.str (x1.f_In), AV.int .i64 (x1.f_At)], AV.ptr 0 0] [Ob.var 23 [AV.sl 1 (List.map encS (o1))]] = some (AV.tup [AV.agg [AV.int .i64 ((y369).1.op), AV.int .i64 ((y369).1.n), AV.int .i64 ((y369).1.t)], AV.bool ((y369).2)], [Ob.var 23 [AV.sl 1 (List.map encS (o1))]]) := (hc _ _ _).trans (ok_code_Thread_1 n x1 o1 y369 hy369)
      try simp only [List.drop_zero, ls]
      first | simp only [hk370] | rewrite [hk370]
      try simp only [ls]
      conv => lhs; whnf
      refine bif_or2 hm ?_ ?_ <;> clear hm <;> intro hc371 hm
      · simp only [hc371, ls]
        conv => lhs; whnf
        refine chk_some2 hm ?_; clear hm; intro hc374 hm
        refine bif_pos (app_row hc374 (by first | rfl | simp only [List.length_map]) (by first | rfl | simp only [List.length_map]) (by first | rfl | simp only [List.length_map, take_map_len]) (by kernel_rfl)) ?_
        try simp only [lt]
        have hp372 : (List.map encOp (m_out) : List (List AV)) ++ [[AV.int .i64 ((y369).1.op), AV.int .i64 ((y369).1.n), AV.int .i64 ((y369).1.t)]] = List.map encOp (m_out ++ ([(y369).1] : List OpS)) := by first | rfl | (rw [List.map_append]; rfl) | (rw [List.map_append]; done) | (simp only [List.map_append, List.map_cons, List.map_nil, List.nil_append, encOp] <;> rfl)
        have hl373 : List.length (List.map encOp (m_out) : List (List AV)) + List.length ([[AV.int .i64 ((y369).1.op), AV.int .i64 ((y369).1.n), AV.int .i64 ((y369).1.t)]] : List (List AV)) = List.length (m_out ++ ([(y369).1] : List OpS)) := by simp only [List.length_map, List.length_append] <;> rfl
        have hl373_b : List.length m_out + List.length ([[AV.int .i64 ((y369).1.op), AV.int .i64 ((y369).1.n), AV.int .i64 ((y369).1.t)]] : List (List AV)) = List.length (m_out ++ ([(y369).1] : List OpS)) := by simp only [List.length_map, List.length_append] <;> rfl
        have hl373_c : List.length m_out + List.length ([(y369).1] : List OpS) = List.length (m_out ++ ([(y369).1] : List OpS)) := by simp only [List.length_map, List.length_append] <;> rfl
        first | simp only [hp372, hl373] | (simp only [List.length_map, take_map_len]; simp only [hp372, hl373_b, hl373_c])
        try simp only [ls]
        conv => lhs; whnf
        have hq := Option.some.inj hm; clear hm; subst hq
        try simp only [ls]
        exact fq (y := some (AV.int .i64 (IntKind.i64.wrap (v1_i + 1)), [Ob.var 87 [AV.sl 5 (List.map c_api_Node (m_l)), AV.func 27 [] [AV.ptr 1 0], AV.row 2 (List.length ((m_out ++ ([(y369).1] : List OpS)))), AV.bool ((y369).2)], Ob.var 23 [AV.sl 1 (List.map encS (o1))], Ob.row 53 3 (List.map encOp (m_out ++ ([(y369).1] : List OpS)))]))
      · simp only [hc371, ls]
        conv => lhs; whnf
        refine chk_some2 hm ?_; clear hm; intro hc377 hm
        refine bif_pos (app_row hc377 (by first | rfl | simp only [List.length_map]) (by first | rfl | simp only [List.length_map]) (by first | rfl | simp only [List.length_map, take_map_len]) (by kernel_rfl)) ?_
        try simp only [lt]
        have hp375 : (List.map encOp (m_out) : List (List AV)) ++ [[AV.int .i64 ((y369).1.op), AV.int .i64 ((y369).1.n), AV.int .i64 ((y369).1.t)]] = List.map encOp (m_out ++ ([(y369).1] : List OpS)) := by first | rfl | (rw [List.map_append]; rfl) | (rw [List.map_append]; done) | (simp only [List.map_append, List.map_cons, List.map_nil, List.nil_append, encOp] <;> rfl)
        have hl376 : List.length (List.map encOp (m_out) : List (List AV)) + List.length ([[AV.int .i64 ((y369).1.op), AV.int .i64 ((y369).1.n), AV.int .i64 ((y369).1.t)]] : List (List AV)) = List.length (m_out ++ ([(y369).1] : List OpS)) := by simp only [List.length_map, List.length_append] <;> rfl
        have hl376_b : List.length m_out + List.length ([[AV.int .i64 ((y369).1.op), AV.int .i64 ((y369).1.n), AV.int .i64 ((y369).1.t)]] : List (List AV)) = List.length (m_out ++ ([(y369).1] : List OpS)) := by simp only [List.length_map, List.length_append] <;> rfl
        have hl376_c : List.length m_out + List.length ([(y369).1] : List OpS) = List.length (m_out ++ ([(y369).1] : List OpS)) := by simp only [List.length_map, List.length_append] <;> rfl
        first | simp only [hp375, hl376] | (simp only [List.length_map, take_map_len]; simp only [hp375, hl376_b, hl376_c])
        try simp only [ls]
        conv => lhs; whnf
        have hq := Option.some.inj hm; clear hm; subst hq
        try simp only [ls]
        exact fq (y := some (AV.int .i64 (IntKind.i64.wrap (v1_i + 1)), [Ob.var 87 [AV.sl 5 (List.map c_api_Node (m_l)), AV.func 27 [] [AV.ptr 1 0], AV.row 2 (List.length ((m_out ++ ([(y369).1] : List OpS)))), AV.bool (false)], Ob.var 23 [AV.sl 1 (List.map encS (o1))], Ob.row 53 3 (List.map encOp (m_out ++ ([(y369).1] : List OpS)))]))
theorem all_code_maker_node (n : Nat) : OK_code_maker_node n := by
  induction n with
  | zero => refine ?_ <;> (unfold OK_code_maker_node; intros; rename_i hm; exact absurd hm (by intro h; cases h))
  | succ n ih =>
    exact st_code_maker_node n ih
theorem ok_code_maker_node (n : Nat) : OK_code_maker_node n := all_code_maker_node n
end Go.Proofs.Ytmnnkeejgkhgpaa
end

section
namespace Go.Proofs.Ytmnnkeejgkhgpaa
set_option linter.unusedVariables false
set_option linter.unusedSimpArgs false
set_option maxRecDepth 100000

set_option maxHeartbeats 4000000 in
theorem ok_code_made (n : Nat) : ∀ (v0_l : (List S_api_Node)) (o0 : (List (List UInt8))) (r : ((List OpS) × Bool)), m_code_made n v0_l o0 = some r → callN Try.prog HH XT n 26 [AV.sl 5 (List.map c_api_Node (v0_l)), AV.func 27 [] [AV.ptr 0 0]] [Ob.var 23 [AV.sl 1 (List.map encS (o0))]] = some (AV.tup [AV.sl 3 (List.map encOp ((r).1)), AV.bool ((r).2)], [Ob.var 23 [AV.sl 1 (List.map encS (o0))]]) := by
  cases n with
  | zero => intro v0_l o0 r hm; exact absurd hm (by intro h; cases h)
  | succ n =>
    intro v0_l o0 r hm
    rw [m_code_made] at hm
    refine callN_eq' Try.func26 (by rfl) rfl rfl (Nat.le_of_ble_eq_true rfl) ?_
    intro call hc
    conv => lhs; whnf
    refine bind_some2 hm ?_; clear hm; intro y1 hy1 hm
    have hk2 : call false 44 [AV.sl 5 (List.map c_api_Node (v0_l))] [] = some (AV.bool (y1), []) := (hc _ _ _).trans (ok_expr_Right n v0_l y1 hy1)
    try simp only [List.drop_zero, ls]
    first | simp only [hk2] | rewrite [hk2]
    try simp only [ls]
    conv => lhs; whnf
    refine bif_or2 hm ?_ ?_ <;> clear hm <;> intro hc3 hm
    · simp only [hc3, ls]
      conv => lhs; whnf
      refine bind_some2 hm ?_; clear hm; intro y4 hy4 hm
      have hk5 : call false 45 [AV.ptr 0 0, AV.int .i64 (0)] [Ob.var 87 [AV.sl 5 (List.map c_api_Node (v0_l)), AV.func 27 [] [AV.ptr 1 0], AV.row 2 (List.length (([] : List OpS))), AV.bool (true)], Ob.var 23 [AV.sl 1 (List.map encS (o0))], Ob.row 53 3 ([])] = some (AV.int .i64 ((y4).1), [Ob.var 87 [AV.sl 5 (List.map c_api_Node (v0_l)), AV.func 27 [] [AV.ptr 1 0], AV.row 2 (List.length ((y4).2.1)), AV.bool ((y4).2.2)], Ob.var 23 [AV.sl 1 (List.map encS (o0))], Ob.row 53 3 (List.map encOp ((y4).2.1))]) := (hc _ _ _).trans (ok_code_maker_node n 0 v0_l ([] : List OpS) true o0 y4 hy4)
      try simp only [List.length_nil, List.map_nil] at hk5
      try simp only [List.length_nil, List.map_nil]
      try simp only [List.drop_zero, ls]
      first | simp only [hk5] | rewrite [hk5]
      try simp only [ls]
      conv => lhs; whnf
      refine bif_or2 hm ?_ ?_ <;> clear hm <;> intro hc6 hm
      · simp only [hc6, ls]
        conv => lhs; whnf
        have hq := Option.some.inj hm; clear hm; subst hq
        try simp only [ls]
        exact fq (y := some (AV.tup [AV.sl 3 (List.take (List.length ((y4).2.1)) (List.map encOp ((y4).2.1))), AV.bool (true)], [Ob.var 23 [AV.sl 1 (List.map encS (o0))]]))
      · simp only [hc6, ls]
        conv => lhs; whnf
        have hq := Option.some.inj hm; clear hm; subst hq
        try simp only [ls]
        exact fq (y := some (AV.tup [AV.sl 3 [], AV.bool (false)], [Ob.var 23 [AV.sl 1 (List.map encS (o0))]]))
    · simp only [hc3, ls]
      conv => lhs; whnf
      have hq := Option.some.inj hm; clear hm; subst hq
      try simp only [ls]
      exact fq (y := some (AV.tup [AV.sl 3 [], AV.bool (false)], [Ob.var 23 [AV.sl 1 (List.map encS (o0))]]))

set_option maxHeartbeats 4000000 in
theorem ok_code_Thread (n : Nat) : ∀ (v0_l : (List S_api_Node)) (v1_regs : (List (List UInt8))) (r : ((List OpS) × Bool)), m_code_Thread n v0_l v1_regs = some r → callN Try.prog HH XT n 11 [AV.sl 5 (List.map c_api_Node (v0_l)), AV.sl 1 (List.map encS (v1_regs))] [] = some (AV.tup [AV.sl 3 (List.map encOp ((r).1)), AV.bool ((r).2)], []) := by
  cases n with
  | zero => intro v0_l v1_regs r hm; exact absurd hm (by intro h; cases h)
  | succ n =>
    intro v0_l v1_regs r hm
    rw [m_code_Thread] at hm
    refine callN_eq' Try.func11 (by rfl) rfl rfl (Nat.le_of_ble_eq_true rfl) ?_
    intro call hc
    conv => lhs; whnf
    refine bind_some2 hm ?_; clear hm; intro y1 hy1 hm
    have hk2 : call false 26 [AV.sl 5 (List.map c_api_Node (v0_l)), AV.func 27 [] [AV.ptr 0 0]] [Ob.var 23 [AV.sl 1 (List.map encS (v1_regs))]] = some (AV.tup [AV.sl 3 (List.map encOp ((y1).1)), AV.bool ((y1).2)], [Ob.var 23 [AV.sl 1 (List.map encS (v1_regs))]]) := (hc _ _ _).trans (ok_code_made n v0_l v1_regs y1 hy1)
    try simp only [List.drop_zero, ls]
    first | simp only [hk2] | rewrite [hk2]
    try simp only [ls]
    conv => lhs; whnf
    have hq := Option.some.inj hm; clear hm; subst hq
    try simp only [ls]
    exact fq (y := some (AV.tup [AV.sl 3 (List.map encOp ((y1).1)), AV.bool ((y1).2)], []))

end Go.Proofs.Ytmnnkeejgkhgpaa
end

section
namespace Go.Proofs.Ytmnnkeejgkhgpaa
set_option linter.unusedVariables false
set_option linter.unusedSimpArgs false
set_option maxRecDepth 100000

set_option maxHeartbeats 4000000 in
theorem ok_ref01_words (n : Nat) : ∀ (r : (List (List UInt8))), m_ref01_words n = some r → callN Try.prog HH XT n 73 [] [] = some (AV.sl 1 (List.map encS (r)), []) := by
  cases n with
  | zero => intro r hm; exact absurd hm (by intro h; cases h)
  | succ n =>
    intro r hm
    rw [m_ref01_words] at hm
    refine callN_eq' Try.func73 (by rfl) rfl rfl (Nat.le_of_ble_eq_true rfl) ?_
    intro call hc
    conv => lhs; whnf
    have hq := Option.some.inj hm; clear hm; subst hq
    try simp only [ls]
    exact fq (y := some (AV.sl 1 [[AV.str (([109, 111, 100] : List UInt8))], [AV.str (([108, 111, 99] : List UInt8))], [AV.str (([116, 104, 114, 101, 97, 100] : List UInt8))], [AV.str (([114, 101, 103] : List UInt8))], [AV.str (([115, 107, 105, 112] : List UInt8))], [AV.str (([115, 101, 116] : List UInt8))], [AV.str (([108, 111, 97, 100] : List UInt8))], [AV.str (([115, 116, 111, 114, 101] : List UInt8))], [AV.str (([99, 97, 115] : List UInt8))], [AV.str (([102, 97, 100, 100] : List UInt8))], [AV.str (([120, 99, 104, 103] : List UInt8))], [AV.str (([102, 101, 110, 99, 101] : List UInt8))], [AV.str (([97, 119, 97, 105, 116] : List UInt8))], [AV.str (([105, 102] : List UInt8))], [AV.str (([101, 108, 115, 101] : List UInt8))], [AV.str (([119, 104, 105, 108, 101] : List UInt8))], [AV.str (([108, 111, 111, 112] : List UInt8))], [AV.str (([98, 114, 101, 97, 107] : List UInt8))], [AV.str (([102, 111, 114, 97, 108, 108] : List UInt8))], [AV.str (([101, 120, 105, 115, 116, 115] : List UInt8))], [AV.str (([97, 108, 119, 97, 121, 115] : List UInt8))]], []))

set_option maxHeartbeats 4000000 in
theorem ok_ref01_Keyword (n : Nat) : ∀ (v0_s : (List UInt8)) (r : Bool), m_ref01_Keyword n v0_s = some r → callN Try.prog HH XT n 68 [AV.str (v0_s)] [] = some (AV.bool (r), []) := by
  cases n with
  | zero => intro v0_s r hm; exact absurd hm (by intro h; cases h)
  | succ n =>
    intro v0_s r hm
    rw [m_ref01_Keyword] at hm
    refine callN_eq' Try.func68 (by rfl) rfl rfl (Nat.le_of_ble_eq_true rfl) ?_
    intro call hc
    conv => lhs; whnf
    refine bind_some2 hm ?_; clear hm; intro y1 hy1 hm
    have hk2 : call false 73 [] [] = some (AV.sl 1 (List.map encS (y1)), []) := (hc _ _ _).trans (ok_ref01_words n  y1 hy1)
    try simp only [List.drop_zero, ls]
    first | simp only [hk2] | rewrite [hk2]
    try simp only [ls]
    conv => lhs; whnf
    refine bind_some2 hm ?_; clear hm; intro o11 ho11 hm
    refine rounds_sim (σ := Int) (τ := Unit) (ν := Bool) 0 (fun s3 a5 => stOf 18 [(0, AV.str (v0_s)), (3, AV.sl 1 (List.map encS (y1))), (4, AV.int .i64 (s3))]) (fun s3 a5 => []) (fun _ a15 => stOf 18 []) (fun _ a15 => []) (fun v => (AV.bool (v), [])) (fun k s => ref01_Keyword_L0 n v0_s y1 k s) (fun s => rfl) o11 ?_ n 0 (fun _ => 0) _ _ ho11 ?_ (by first | rfl | (simp only [ls, List.map_append, List.map_cons, List.map_nil, List.append_nil, List.length_set, length_copyL] <;> rfl)) (by first | rfl | (simp only [ls, List.map_append, List.map_cons, List.map_nil, List.append_nil, List.length_set, length_copyL] <;> rfl))
    · intro k4 ss a5 K6 cont7 hK8 hcont9 hm hr10
      obtain ⟨s3, rfl⟩ : ∃ x, x = ss := ⟨_, rfl⟩
      replace hm : ref01_Keyword_L0 n v0_s y1 (k4 + 1) s3 = some o11 := hm
      rw [ref01_Keyword_L0] at hm
      conv => lhs; whnf
      refine bif_or2 hm ?_ ?_ <;> clear hm <;> intro hc12 hm
      · simp only [hc12, ls]
        conv => lhs; whnf
        refine bind_some2 hm ?_; clear hm; intro x13 hx13 hm
        refine bif_pos (by first | exact idx_in hx13 | exact idx_in' hx13) ?_
        simp only [idx_nth (f := encS) hx13, ls]
        conv => lhs; whnf
        refine bif_or2 hm ?_ ?_ <;> clear hm <;> intro hc14 hm
        · simp only [hc14, ls]
          conv => lhs; whnf
          have hq := Option.some.inj hm; clear hm; subst hq
          refine (hK8 _ _).trans ?_
          refine Eq.trans ?_ (Eq.symm (show _ = some _ from hr10))
          conv => lhs; whnf
          try simp only [ls]
          exact fq (y := some (AV.bool (true), []))
        · simp only [hc14, ls]
          conv => lhs; whnf
          exact cq (hcont9 (IntKind.i64.wrap (s3 + 1)) (fun _ => 0) hm)
      · simp only [hc12, ls]
        conv => lhs; whnf
        have hq := Option.some.inj hm; clear hm; subst hq
        exact kq (hr10 (fun _ => 0))
    · cases o11 with
      | ret v =>
        have hq := Option.some.inj hm; clear hm; subst hq
        rfl
      | out t =>
        intro a15
        dsimp only at hm
        conv => lhs; whnf
        have hq := Option.some.inj hm; clear hm; subst hq
        try simp only [ls]
        exact fq (y := some (AV.bool (false), []))

set_option maxHeartbeats 4000000 in
theorem ok_ref01_digit (n : Nat) : ∀ (v0_c : Int) (r : Bool), m_ref01_digit n v0_c = some r → callN Try.prog HH XT n 69 [AV.int .u8 (v0_c)] [] = some (AV.bool (r), []) := by
  cases n with
  | zero => intro v0_c r hm; exact absurd hm (by intro h; cases h)
  | succ n =>
    intro v0_c r hm
    rw [m_ref01_digit] at hm
    refine callN_eq' Try.func69 (by rfl) rfl rfl (Nat.le_of_ble_eq_true rfl) ?_
    intro call hc
    conv => lhs; whnf
    refine bif_or2 hm ?_ ?_ <;> clear hm <;> intro hc1 hm
    · simp only [hc1, ls]
      conv => lhs; whnf
      have hq := Option.some.inj hm; clear hm; subst hq
      try simp only [ls]
      exact fq (y := some (AV.bool (decide (v0_c ≤ 57)), []))
    · simp only [hc1, ls]
      conv => lhs; whnf
      have hq := Option.some.inj hm; clear hm; subst hq
      try simp only [ls]
      exact fq (y := some (AV.bool (false), []))

set_option maxHeartbeats 4000000 in
theorem ok_ref01_letter (n : Nat) : ∀ (v0_c : Int) (r : Bool), m_ref01_letter n v0_c = some r → callN Try.prog HH XT n 67 [AV.int .u8 (v0_c)] [] = some (AV.bool (r), []) := by
  cases n with
  | zero => intro v0_c r hm; exact absurd hm (by intro h; cases h)
  | succ n =>
    intro v0_c r hm
    rw [m_ref01_letter] at hm
    refine callN_eq' Try.func67 (by rfl) rfl rfl (Nat.le_of_ble_eq_true rfl) ?_
    intro call hc
    conv => lhs; whnf
    refine bif_or2 hm ?_ ?_ <;> clear hm <;> intro hc1 hm
    · simp only [hc1, ls]
      conv => lhs; whnf
      refine bif_or2 hm ?_ ?_ <;> clear hm <;> intro hc2 hm
      · simp only [hc2, ls]
        conv => lhs; whnf
        have hq := Option.some.inj hm; clear hm; subst hq
        try simp only [ls]
        exact fq (y := some (AV.bool (true), []))
      · simp only [hc2, ls]
        conv => lhs; whnf
        refine bif_or2 hm ?_ ?_ <;> clear hm <;> intro hc3 hm
        · simp only [hc3, ls]
          conv => lhs; whnf
          refine bif_or2 hm ?_ ?_ <;> clear hm <;> intro hc4 hm
          · simp only [hc4, ls]
            conv => lhs; whnf
            have hq := Option.some.inj hm; clear hm; subst hq
            try simp only [ls]
            exact fq (y := some (AV.bool (true), []))
          · simp only [hc4, ls]
            conv => lhs; whnf
            have hq := Option.some.inj hm; clear hm; subst hq
            try simp only [ls]
            exact fq (y := some (AV.bool ((v0_c == 95)), []))
        · simp only [hc3, ls]
          conv => lhs; whnf
          have hq := Option.some.inj hm; clear hm; subst hq
          try simp only [ls]
          exact fq (y := some (AV.bool ((v0_c == 95)), []))
    · simp only [hc1, ls]
      conv => lhs; whnf
      refine bif_or2 hm ?_ ?_ <;> clear hm <;> intro hc5 hm
      · simp only [hc5, ls]
        conv => lhs; whnf
        refine bif_or2 hm ?_ ?_ <;> clear hm <;> intro hc6 hm
        · simp only [hc6, ls]
          conv => lhs; whnf
          have hq := Option.some.inj hm; clear hm; subst hq
          try simp only [ls]
          exact fq (y := some (AV.bool (true), []))
        · simp only [hc6, ls]
          conv => lhs; whnf
          have hq := Option.some.inj hm; clear hm; subst hq
          try simp only [ls]
          exact fq (y := some (AV.bool ((v0_c == 95)), []))
      · simp only [hc5, ls]
        conv => lhs; whnf
        have hq := Option.some.inj hm; clear hm; subst hq
        try simp only [ls]
        exact fq (y := some (AV.bool ((v0_c == 95)), []))

set_option maxHeartbeats 4000000 in
theorem ok_ref01_Name (n : Nat) : ∀ (v0_s : (List UInt8)) (r : Bool), m_ref01_Name n v0_s = some r → callN Try.prog HH XT n 64 [AV.str (v0_s)] [] = some (AV.bool (r), []) := by
  cases n with
  | zero => intro v0_s r hm; exact absurd hm (by intro h; cases h)
  | succ n =>
    intro v0_s r hm
    rw [m_ref01_Name] at hm
    refine callN_eq' Try.func64 (by rfl) rfl rfl (Nat.le_of_ble_eq_true rfl) ?_
    intro call hc
    conv => lhs; whnf
    refine bif_or2 hm ?_ ?_ <;> clear hm <;> intro hc1 hm
    · simp only [hc1, ls]
      conv => lhs; whnf
      have hq := Option.some.inj hm; clear hm; subst hq
      try simp only [ls]
      exact fq (y := some (AV.bool (false), []))
    · simp only [hc1, ls]
      conv => lhs; whnf
      refine bif_or2 hm ?_ ?_ <;> clear hm <;> intro hc2 hm
      · simp only [hc2, ls]
        conv => lhs; whnf
        have hq := Option.some.inj hm; clear hm; subst hq
        try simp only [ls]
        exact fq (y := some (AV.bool (false), []))
      · simp only [hc2, ls]
        conv => lhs; whnf
        refine bind_some2 hm ?_; clear hm; intro x3 hx3 hm
        refine bif_pos (idx_in hx3) ?_
        simp only [idx_str hx3, ls]
        conv => lhs; whnf
        refine bind_some2 hm ?_; clear hm; intro y4 hy4 hm
        have hk5 : call false 67 [AV.int .u8 (((x3).toNat : Int))] [] = some (AV.bool (y4), []) := (hc _ _ _).trans (ok_ref01_letter n ((x3).toNat : Int) y4 hy4)
        try simp only [List.drop_zero, ls]
        first | simp only [hk5] | rewrite [hk5]
        try simp only [ls]
        conv => lhs; whnf
        refine bif_or2 hm ?_ ?_ <;> clear hm <;> intro hc6 hm
        · simp only [hc6, ls]
          conv => lhs; whnf
          refine bind_some2 hm ?_; clear hm; intro y7 hy7 hm
          have hk8 : call false 68 [AV.str (v0_s)] [] = some (AV.bool (y7), []) := (hc _ _ _).trans (ok_ref01_Keyword n v0_s y7 hy7)
          try simp only [List.drop_zero, ls]
          first | simp only [hk8] | rewrite [hk8]
          try simp only [ls]
          conv => lhs; whnf
          refine bif_or2 hm ?_ ?_ <;> clear hm <;> intro hc9 hm
          · simp only [hc9, ls]
            conv => lhs; whnf
            have hq := Option.some.inj hm; clear hm; subst hq
            try simp only [ls]
            exact fq (y := some (AV.bool (false), []))
          · simp only [hc9, ls]
            conv => lhs; whnf
            refine bind_some2 hm ?_; clear hm; intro o18 ho18 hm
            refine rounds_sim (σ := Int) (τ := Unit) (ν := Bool) 0 (fun s10 a12 => stOf 40 [(0, AV.str (v0_s)), (3, AV.int .i64 (s10))]) (fun s10 a12 => []) (fun _ a28 => stOf 40 []) (fun _ a28 => []) (fun v => (AV.bool (v), [])) (fun k s => ref01_Name_L0 n v0_s k s) (fun s => rfl) o18 ?_ n 0 (fun _ => 0) _ _ ho18 ?_ (by first | rfl | (simp only [ls, List.map_append, List.map_cons, List.map_nil, List.append_nil, List.length_set, length_copyL] <;> rfl)) (by first | rfl | (simp only [ls, List.map_append, List.map_cons, List.map_nil, List.append_nil, List.length_set, length_copyL] <;> rfl))
            · intro k11 ss a12 K13 cont14 hK15 hcont16 hm hr17
              obtain ⟨s10, rfl⟩ : ∃ x, x = ss := ⟨_, rfl⟩
              replace hm : ref01_Name_L0 n v0_s (k11 + 1) s10 = some o18 := hm
              rw [ref01_Name_L0] at hm
              conv => lhs; whnf
              refine bif_or2 hm ?_ ?_ <;> clear hm <;> intro hc19 hm
              · simp only [hc19, ls]
                conv => lhs; whnf
                refine bind_some2 hm ?_; clear hm; intro x20 hx20 hm
                refine bif_pos (idx_in hx20) ?_
                simp only [idx_str hx20, ls]
                conv => lhs; whnf
                refine bind_some2 hm ?_; clear hm; intro y21 hy21 hm
                have hk22 : call false 67 [AV.int .u8 (((x20).toNat : Int))] [] = some (AV.bool (y21), []) := (hc _ _ _).trans (ok_ref01_letter n ((x20).toNat : Int) y21 hy21)
                try simp only [List.drop_zero, ls]
                first | simp only [hk22] | rewrite [hk22]
                try simp only [ls]
                conv => lhs; whnf
                refine bif_or2 hm ?_ ?_ <;> clear hm <;> intro hc23 hm
                · simp only [hc23, ls]
                  conv => lhs; whnf
                  exact cq (hcont16 (IntKind.i64.wrap (s10 + 1)) (fun _ => 0) hm)
                · simp only [hc23, ls]
                  conv => lhs; whnf
                  refine bind_some2 hm ?_; clear hm; intro x24 hx24 hm
                  refine bif_pos (idx_in hx24) ?_
                  simp only [idx_str hx24, ls]
                  conv => lhs; whnf
                  refine bind_some2 hm ?_; clear hm; intro y25 hy25 hm
                  have hk26 : call false 69 [AV.int .u8 (((x24).toNat : Int))] [] = some (AV.bool (y25), []) := (hc _ _ _).trans (ok_ref01_digit n ((x24).toNat : Int) y25 hy25)
                  try simp only [List.drop_zero, ls]
                  first | simp only [hk26] | rewrite [hk26]
                  try simp only [ls]
                  conv => lhs; whnf
                  refine bif_or2 hm ?_ ?_ <;> clear hm <;> intro hc27 hm
                  · simp only [hc27, ls]
                    conv => lhs; whnf
                    exact cq (hcont16 (IntKind.i64.wrap (s10 + 1)) (fun _ => 0) hm)
                  · simp only [hc27, ls]
                    conv => lhs; whnf
                    have hq := Option.some.inj hm; clear hm; subst hq
                    refine (hK15 _ _).trans ?_
                    refine Eq.trans ?_ (Eq.symm (show _ = some _ from hr17))
                    conv => lhs; whnf
                    try simp only [ls]
                    exact fq (y := some (AV.bool (false), []))
              · simp only [hc19, ls]
                conv => lhs; whnf
                have hq := Option.some.inj hm; clear hm; subst hq
                exact kq (hr17 (fun _ => 0))
            · cases o18 with
              | ret v =>
                have hq := Option.some.inj hm; clear hm; subst hq
                rfl
              | out t =>
                intro a28
                dsimp only at hm
                conv => lhs; whnf
                have hq := Option.some.inj hm; clear hm; subst hq
                try simp only [ls]
                exact fq (y := some (AV.bool (true), []))
        · simp only [hc6, ls]
          conv => lhs; whnf
          have hq := Option.some.inj hm; clear hm; subst hq
          try simp only [ls]
          exact fq (y := some (AV.bool (false), []))
end Go.Proofs.Ytmnnkeejgkhgpaa
end

section
namespace Go.Proofs.Ytmnnkeejgkhgpaa
set_option linter.unusedVariables false
set_option linter.unusedSimpArgs false
set_option maxRecDepth 100000

set_option maxHeartbeats 4000000 in
theorem ok_ref02_Light (n : Nat) : ∀ (v0_l : (List S_api_Node)) (r : Bool), m_ref02_Light n v0_l = some r → callN Try.prog HH XT n 8 [AV.sl 5 (List.map c_api_Node (v0_l))] [] = some (AV.bool (r), []) := by
  cases n with
  | zero => intro v0_l r hm; exact absurd hm (by intro h; cases h)
  | succ n =>
    intro v0_l r hm
    rw [m_ref02_Light] at hm
    refine callN_eq' Try.func8 (by rfl) rfl rfl (Nat.le_of_ble_eq_true rfl) ?_
    intro call hc
    conv => lhs; whnf
    refine bif_or2 hm ?_ ?_ <;> clear hm <;> intro hc1 hm
    · simp only [hc1, ls]
      conv => lhs; whnf
      have hq := Option.some.inj hm; clear hm; subst hq
      try simp only [ls]
      exact fq (y := some (AV.bool (false), []))
    · simp only [hc1, ls]
      conv => lhs; whnf
      refine bind_some2 hm ?_; clear hm; intro o10 ho10 hm
      refine rounds_sim (σ := Int) (τ := Unit) (ν := Bool) 0 (fun s2 a4 => stOf 29 [(0, AV.sl 5 (List.map c_api_Node (v0_l))), (3, AV.int .i64 (s2))]) (fun s2 a4 => []) (fun _ a16 => stOf 29 []) (fun _ a16 => []) (fun v => (AV.bool (v), [])) (fun k s => ref02_Light_L0 n v0_l k s) (fun s => rfl) o10 ?_ n 0 (fun _ => 0) _ _ ho10 ?_ (by first | rfl | (simp only [ls, List.map_append, List.map_cons, List.map_nil, List.append_nil, List.length_set, length_copyL] <;> rfl)) (by first | rfl | (simp only [ls, List.map_append, List.map_cons, List.map_nil, List.append_nil, List.length_set, length_copyL] <;> rfl))
      · intro k3 ss a4 K5 cont6 hK7 hcont8 hm hr9
        obtain ⟨s2, rfl⟩ : ∃ x, x = ss := ⟨_, rfl⟩
        replace hm : ref02_Light_L0 n v0_l (k3 + 1) s2 = some o10 := hm
        rw [ref02_Light_L0] at hm
        conv => lhs; whnf
        refine bif_or2 hm ?_ ?_ <;> clear hm <;> intro hc11 hm
        · simp only [hc11, ls]
          conv => lhs; whnf
          refine bind_some2 hm ?_; clear hm; intro x12 hx12 hm
          refine bif_pos (by first | exact idx_in hx12 | exact idx_in' hx12) ?_
          simp only [idx_nth (f := c_api_Node) hx12, ls]
          conv => lhs; whnf
          refine bif_or2 hm ?_ ?_ <;> clear hm <;> intro hc13 hm
          · simp only [hc13, ls]
            conv => lhs; whnf
            have hq := Option.some.inj hm; clear hm; subst hq
            refine (hK7 _ _).trans ?_
            refine Eq.trans ?_ (Eq.symm (show _ = some _ from hr9))
            conv => lhs; whnf
            try simp only [ls]
            exact fq (y := some (AV.bool (false), []))
          · simp only [hc13, ls]
            conv => lhs; whnf
            refine bind_some2 hm ?_; clear hm; intro x14 hx14 hm
            refine bif_pos (by first | exact idx_in hx14 | exact idx_in' hx14) ?_
            simp only [idx_nth (f := c_api_Node) hx14, ls]
            conv => lhs; whnf
            refine bif_or2 hm ?_ ?_ <;> clear hm <;> intro hc15 hm
            · simp only [hc15, ls]
              conv => lhs; whnf
              have hq := Option.some.inj hm; clear hm; subst hq
              refine (hK7 _ _).trans ?_
              refine Eq.trans ?_ (Eq.symm (show _ = some _ from hr9))
              conv => lhs; whnf
              try simp only [ls]
              exact fq (y := some (AV.bool (false), []))
            · simp only [hc15, ls]
              conv => lhs; whnf
              exact cq (hcont8 (IntKind.i64.wrap (s2 + 1)) (fun _ => 0) hm)
        · simp only [hc11, ls]
          conv => lhs; whnf
          have hq := Option.some.inj hm; clear hm; subst hq
          exact kq (hr9 (fun _ => 0))
      · cases o10 with
        | ret v =>
          have hq := Option.some.inj hm; clear hm; subst hq
          rfl
        | out t =>
          intro a16
          dsimp only at hm
          conv => lhs; whnf
          have hq := Option.some.inj hm; clear hm; subst hq
          try simp only [ls]
          exact fq (y := some (AV.bool (true), []))

set_option maxHeartbeats 4000000 in
theorem ok_ref02_kids (n : Nat) : ∀ (v0_op : Int) (r : Int), m_ref02_kids n v0_op = some r → callN Try.prog HH XT n 63 [AV.int .i64 (v0_op)] [] = some (AV.int .i64 (r), []) := by
  cases n with
  | zero => intro v0_op r hm; exact absurd hm (by intro h; cases h)
  | succ n =>
    intro v0_op r hm
    rw [m_ref02_kids] at hm
    refine callN_eq' Try.func63 (by rfl) rfl rfl (Nat.le_of_ble_eq_true rfl) ?_
    intro call hc
    conv => lhs; whnf
    refine bif_or2 hm ?_ ?_ <;> clear hm <;> intro hc1 hm
    · simp only [hc1, ls]
      conv => lhs; whnf
      refine bif_or2 hm ?_ ?_ <;> clear hm <;> intro hc2 hm
      · simp only [hc2, ls]
        conv => lhs; whnf
        have hq := Option.some.inj hm; clear hm; subst hq
        try simp only [ls]
        exact fq (y := some (AV.int .i64 (0), []))
      · simp only [hc2, ls]
        conv => lhs; whnf
        refine bif_or2 hm ?_ ?_ <;> clear hm <;> intro hc3 hm
        · simp only [hc3, ls]
          conv => lhs; whnf
          have hq := Option.some.inj hm; clear hm; subst hq
          try simp only [ls]
          exact fq (y := some (AV.int .i64 (1), []))
        · simp only [hc3, ls]
          conv => lhs; whnf
          refine bif_or2 hm ?_ ?_ <;> clear hm <;> intro hc4 hm
          · simp only [hc4, ls]
            conv => lhs; whnf
            refine bif_or2 hm ?_ ?_ <;> clear hm <;> intro hc5 hm
            · simp only [hc5, ls]
              conv => lhs; whnf
              have hq := Option.some.inj hm; clear hm; subst hq
              try simp only [ls]
              exact fq (y := some (AV.int .i64 (2), []))
            · simp only [hc5, ls]
              conv => lhs; whnf
              have hq := Option.some.inj hm; clear hm; subst hq
              try simp only [ls]
              exact fq (y := some (AV.int .i64 ((-1)), []))
          · simp only [hc4, ls]
            conv => lhs; whnf
            have hq := Option.some.inj hm; clear hm; subst hq
            try simp only [ls]
            exact fq (y := some (AV.int .i64 ((-1)), []))
    · simp only [hc1, ls]
      conv => lhs; whnf
      refine bif_or2 hm ?_ ?_ <;> clear hm <;> intro hc6 hm
      · simp only [hc6, ls]
        conv => lhs; whnf
        have hq := Option.some.inj hm; clear hm; subst hq
        try simp only [ls]
        exact fq (y := some (AV.int .i64 (1), []))
      · simp only [hc6, ls]
        conv => lhs; whnf
        refine bif_or2 hm ?_ ?_ <;> clear hm <;> intro hc7 hm
        · simp only [hc7, ls]
          conv => lhs; whnf
          refine bif_or2 hm ?_ ?_ <;> clear hm <;> intro hc8 hm
          · simp only [hc8, ls]
            conv => lhs; whnf
            have hq := Option.some.inj hm; clear hm; subst hq
            try simp only [ls]
            exact fq (y := some (AV.int .i64 (2), []))
          · simp only [hc8, ls]
            conv => lhs; whnf
            have hq := Option.some.inj hm; clear hm; subst hq
            try simp only [ls]
            exact fq (y := some (AV.int .i64 ((-1)), []))
        · simp only [hc7, ls]
          conv => lhs; whnf
          have hq := Option.some.inj hm; clear hm; subst hq
          try simp only [ls]
          exact fq (y := some (AV.int .i64 ((-1)), []))

set_option maxHeartbeats 4000000 in
theorem ok_ref02_End (n : Nat) : ∀ (v0_l : (List S_api_Node)) (v1_i : Int) (r : Int), m_ref02_End n v0_l v1_i = some r → callN Try.prog HH XT n 46 [AV.sl 5 (List.map c_api_Node (v0_l)), AV.int .i64 (v1_i)] [] = some (AV.int .i64 (r), []) := by
  cases n with
  | zero => intro v0_l v1_i r hm; exact absurd hm (by intro h; cases h)
  | succ n =>
    intro v0_l v1_i r hm
    rw [m_ref02_End] at hm
    refine callN_eq' Try.func46 (by rfl) rfl rfl (Nat.le_of_ble_eq_true rfl) ?_
    intro call hc
    conv => lhs; whnf
    refine bif_or2 hm ?_ ?_ <;> clear hm <;> intro hc1 hm
    · simp only [hc1, ls]
      conv => lhs; whnf
      have hq := Option.some.inj hm; clear hm; subst hq
      try simp only [ls]
      exact fq (y := some (AV.int .i64 ((-1)), []))
    · simp only [hc1, ls]
      conv => lhs; whnf
      refine bind_some2 hm ?_; clear hm; intro o11 ho11 hm
      refine rounds_sim (σ := (Int × Int)) (τ := Unit) (ν := Int) 0 (fun (s2, s3) a5 => stOf 33 [(0, AV.sl 5 (List.map c_api_Node (v0_l))), (5, AV.int .i64 (s2)), (6, AV.int .i64 (s3))]) (fun (s2, s3) a5 => []) (fun _ a18 => stOf 33 []) (fun _ a18 => []) (fun v => (AV.int .i64 (v), [])) (fun k s => ref02_End_L0 n v0_l k ((s).1) ((s).2)) (fun s => rfl) o11 ?_ n (1, v1_i) (fun _ => 0) _ _ ho11 ?_ (by first | rfl | (simp only [ls, List.map_append, List.map_cons, List.map_nil, List.append_nil, List.length_set, length_copyL] <;> rfl)) (by first | rfl | (simp only [ls, List.map_append, List.map_cons, List.map_nil, List.append_nil, List.length_set, length_copyL] <;> rfl))
      · intro k4 ss a5 K6 cont7 hK8 hcont9 hm hr10
        obtain ⟨s2, s3⟩ := ss
        replace hm : ref02_End_L0 n v0_l (k4 + 1) s2 s3 = some o11 := hm
        rw [ref02_End_L0] at hm
        conv => lhs; whnf
        refine bif_or2 hm ?_ ?_ <;> clear hm <;> intro hc12 hm
        · simp only [hc12, ls]
          conv => lhs; whnf
          refine bind_some2 hm ?_; clear hm; intro x13 hx13 hm
          refine bif_pos (by first | exact idx_in hx13 | exact idx_in' hx13) ?_
          simp only [idx_nth (f := c_api_Node) hx13, ls]
          conv => lhs; whnf
          refine bind_some2 hm ?_; clear hm; intro y14 hy14 hm
          have hk15 : call false 63 [AV.int .i64 (x13.f_Op)] [] = some (AV.int .i64 (y14), []) := (hc _ _ _).trans (ok_ref02_kids n x13.f_Op y14 hy14)
          try simp only [List.drop_zero, ls]
          first | simp only [hk15] | rewrite [hk15]
          try simp only [ls]
          conv => lhs; whnf
          refine bif_or2 hm ?_ ?_ <;> clear hm <;> intro hc16 hm
          · simp only [hc16, ls]
            conv => lhs; whnf
            have hq := Option.some.inj hm; clear hm; subst hq
            refine (hK8 _ _).trans ?_
            refine Eq.trans ?_ (Eq.symm (show _ = some _ from hr10))
            conv => lhs; whnf
            try simp only [ls]
            exact fq (y := some (AV.int .i64 ((-1)), []))
          · simp only [hc16, ls]
            conv => lhs; whnf
            refine bif_or2 hm ?_ ?_ <;> clear hm <;> intro hc17 hm
            · simp only [hc17, ls]
              conv => lhs; whnf
              have hq := Option.some.inj hm; clear hm; subst hq
              refine (hK8 _ _).trans ?_
              refine Eq.trans ?_ (Eq.symm (show _ = some _ from hr10))
              conv => lhs; whnf
              try simp only [ls]
              exact fq (y := some (AV.int .i64 (IntKind.i64.wrap (s3 + 1)), []))
            · simp only [hc17, ls]
              conv => lhs; whnf
              exact cq (hcont9 (IntKind.i64.wrap ((IntKind.i64.wrap (s2 - 1)) + y14), IntKind.i64.wrap (s3 + 1)) (fun _ => 0) hm)
        · simp only [hc12, ls]
          conv => lhs; whnf
          have hq := Option.some.inj hm; clear hm; subst hq
          exact kq (hr10 (fun _ => 0))
      · cases o11 with
        | ret v =>
          have hq := Option.some.inj hm; clear hm; subst hq
          rfl
        | out t =>
          intro a18
          dsimp only at hm
          conv => lhs; whnf
          have hq := Option.some.inj hm; clear hm; subst hq
          try simp only [ls]
          exact fq (y := some (AV.int .i64 ((-1)), []))

def OK_ref02_deep (n : Nat) : Prop := ∀ (v0_l : (List S_api_Node)) (v1_i : Int) (r : Int), m_ref02_deep n v0_l v1_i = some r → callN Try.prog HH XT n 48 [AV.sl 5 (List.map c_api_Node (v0_l)), AV.int .i64 (v1_i)] [] = some (AV.int .i64 (r), [])
set_option maxHeartbeats 4000000 in
theorem st_ref02_deep (n : Nat) (ih_ref02_deep : OK_ref02_deep n) : OK_ref02_deep (n + 1) := by
  intro v0_l v1_i r hm
  rw [m_ref02_deep] at hm
  refine callN_eq' Try.func48 (by rfl) rfl rfl (Nat.le_of_ble_eq_true rfl) ?_
  intro call hc
  conv => lhs; whnf
  refine bind_some2 hm ?_; clear hm; intro o11 ho11 hm
  refine rounds_sim (σ := (Int × Int × Int)) (τ := Int) (ν := Int) 0 (fun (s1, s2, s3) a5 => stOf 30 [(0, AV.sl 5 (List.map c_api_Node (v0_l))), (1, AV.int .i64 (v1_i)), (5, AV.int .i64 (s1)), (6, AV.int .i64 (s2)), (7, AV.int .i64 (s3))]) (fun (s1, s2, s3) a5 => []) (fun x21 a20 => stOf 30 [(5, AV.int .i64 (x21))]) (fun x21 a20 => []) (fun v => (AV.int .i64 (v), [])) (fun k s => ref02_deep_L0 n (m_ref02_deep n) v0_l v1_i k ((s).1) ((s).2.1) ((s).2.2)) (fun s => rfl) o11 ?_ n (0, IntKind.i64.wrap (v1_i + 1), 0) (fun _ => 0) _ _ ho11 ?_ (by first | rfl | (simp only [ls, List.map_append, List.map_cons, List.map_nil, List.append_nil, List.length_set, length_copyL] <;> rfl)) (by first | rfl | (simp only [ls, List.map_append, List.map_cons, List.map_nil, List.append_nil, List.length_set, length_copyL] <;> rfl))
  · intro k4 ss a5 K6 cont7 hK8 hcont9 hm hr10
    obtain ⟨s1, s2, s3⟩ := ss
    replace hm : ref02_deep_L0 n (m_ref02_deep n) v0_l v1_i (k4 + 1) s1 s2 s3 = some o11 := hm
    rw [ref02_deep_L0] at hm
    conv => lhs; whnf
    refine bind_some2 hm ?_; clear hm; intro x12 hx12 hm
    refine bif_pos (by first | exact idx_in hx12 | exact idx_in' hx12) ?_
    simp only [idx_nth (f := c_api_Node) hx12, ls]
    conv => lhs; whnf
    refine bind_some2 hm ?_; clear hm; intro y13 hy13 hm
    have hk14 : call false 63 [AV.int .i64 (x12.f_Op)] [] = some (AV.int .i64 (y13), []) := (hc _ _ _).trans (ok_ref02_kids n x12.f_Op y13 hy13)
    try simp only [List.drop_zero, ls]
    first | simp only [hk14] | rewrite [hk14]
    try simp only [ls]
    conv => lhs; whnf
    refine bif_or2 hm ?_ ?_ <;> clear hm <;> intro hc15 hm
    · simp only [hc15, ls]
      conv => lhs; whnf
      refine bind_some2 hm ?_; clear hm; intro y16 hy16 hm
      have hk17 : call false 48 [AV.sl 5 (List.map c_api_Node (v0_l)), AV.int .i64 (s2)] [] = some (AV.int .i64 (y16), []) := (hc _ _ _).trans (ih_ref02_deep v0_l s2 y16 hy16)
      try simp only [List.drop_zero, ls]
      first | simp only [hk17] | rewrite [hk17]
      try simp only [ls]
      conv => lhs; whnf
      refine bind_some2 hm ?_; clear hm; intro y18 hy18 hm
      have hk19 : call false 46 [AV.sl 5 (List.map c_api_Node (v0_l)), AV.int .i64 (s2)] [] = some (AV.int .i64 (y18), []) := (hc _ _ _).trans (ok_ref02_End n v0_l s2 y18 hy18)
      try simp only [List.drop_zero, ls]
      first | simp only [hk19] | rewrite [hk19]
      try simp only [ls]
      conv => lhs; whnf
      exact cq (hcont9 ((if s1 < (IntKind.i64.wrap (1 + y16)) then (IntKind.i64.wrap (1 + y16)) else s1), y18, IntKind.i64.wrap (s3 + 1)) (fun _ => 0) hm)
    · simp only [hc15, ls]
      conv => lhs; whnf
      have hq := Option.some.inj hm; clear hm; subst hq
      exact kq (hr10 (fun _ => 0))
  · cases o11 with
    | ret v =>
      have hq := Option.some.inj hm; clear hm; subst hq
      rfl
    | out t =>
      obtain ⟨x21, rfl⟩ : ∃ x, x = t := ⟨_, rfl⟩
      intro a20
      dsimp only at hm
      conv => lhs; whnf
      have hq := Option.some.inj hm; clear hm; subst hq
      try simp only [ls]
      exact fq (y := some (AV.int .i64 (x21), []))
theorem all_ref02_deep (n : Nat) : OK_ref02_deep n := by
  induction n with
  | zero => refine ?_ <;> (unfold OK_ref02_deep; intros; rename_i hm; exact absurd hm (by intro h; cases h))
  | succ n ih =>
    exact st_ref02_deep n ih
theorem ok_ref02_deep (n : Nat) : OK_ref02_deep n := all_ref02_deep n

set_option maxHeartbeats 4000000 in
theorem ok_ref02_node (n : Nat) : ∀ (v0_x : S_api_Node) (r : Bool), m_ref02_node n v0_x = some r → callN Try.prog HH XT n 47 [AV.agg [AV.int .i64 (v0_x.f_Op), AV.int .i64 (v0_x.f_N), AV.str (v0_x.f_Name), AV.str (v0_x.f_In), AV.int .i64 (v0_x.f_At)]] [] = some (AV.bool (r), []) := by
  cases n with
  | zero => intro v0_x r hm; exact absurd hm (by intro h; cases h)
  | succ n =>
    intro v0_x r hm
    rw [m_ref02_node] at hm
    refine callN_eq' Try.func47 (by rfl) rfl rfl (Nat.le_of_ble_eq_true rfl) ?_
    intro call hc
    conv => lhs; whnf
    refine bif_or2 hm ?_ ?_ <;> clear hm <;> intro hc1 hm
    · simp only [hc1, ls]
      conv => lhs; whnf
      have hq := Option.some.inj hm; clear hm; subst hq
      try simp only [ls]
      exact fq (y := some (AV.bool (false), []))
    · simp only [hc1, ls]
      conv => lhs; whnf
      refine bif_or2 hm ?_ ?_ <;> clear hm <;> intro hc2 hm
      · simp only [hc2, ls]
        conv => lhs; whnf
        refine bif_or2 hm ?_ ?_ <;> clear hm <;> intro hc3 hm
        · simp only [hc3, ls]
          conv => lhs; whnf
          refine bif_or2 hm ?_ ?_ <;> clear hm <;> intro hc4 hm
          · simp only [hc4, ls]
            conv => lhs; whnf
            refine bif_or2 hm ?_ ?_ <;> clear hm <;> intro hc5 hm
            · simp only [hc5, ls]
              conv => lhs; whnf
              have hq := Option.some.inj hm; clear hm; subst hq
              try simp only [ls]
              exact fq (y := some (AV.bool ((v0_x.f_In == ([] : List UInt8))), []))
            · simp only [hc5, ls]
              conv => lhs; whnf
              have hq := Option.some.inj hm; clear hm; subst hq
              try simp only [ls]
              exact fq (y := some (AV.bool (false), []))
          · simp only [hc4, ls]
            conv => lhs; whnf
            have hq := Option.some.inj hm; clear hm; subst hq
            try simp only [ls]
            exact fq (y := some (AV.bool (false), []))
        · simp only [hc3, ls]
          conv => lhs; whnf
          have hq := Option.some.inj hm; clear hm; subst hq
          try simp only [ls]
          exact fq (y := some (AV.bool (false), []))
      · simp only [hc2, ls]
        conv => lhs; whnf
        refine bif_or2 hm ?_ ?_ <;> clear hm <;> intro hc6 hm
        · simp only [hc6, ls]
          conv => lhs; whnf
          refine bif_or2 hm ?_ ?_ <;> clear hm <;> intro hc7 hm
          · simp only [hc7, ls]
            conv => lhs; whnf
            refine bind_some2 hm ?_; clear hm; intro y8 hy8 hm
            have hk9 : call false 64 [AV.str (v0_x.f_Name)] [] = some (AV.bool (y8), []) := (hc _ _ _).trans (ok_ref01_Name n v0_x.f_Name y8 hy8)
            try simp only [List.drop_zero, ls]
            first | simp only [hk9] | rewrite [hk9]
            try simp only [ls]
            conv => lhs; whnf
            refine bif_or2 hm ?_ ?_ <;> clear hm <;> intro hc10 hm
            · simp only [hc10, ls]
              conv => lhs; whnf
              have hq := Option.some.inj hm; clear hm; subst hq
              try simp only [ls]
              exact fq (y := some (AV.bool ((v0_x.f_In == ([] : List UInt8))), []))
            · simp only [hc10, ls]
              conv => lhs; whnf
              have hq := Option.some.inj hm; clear hm; subst hq
              try simp only [ls]
              exact fq (y := some (AV.bool (false), []))
          · simp only [hc7, ls]
            conv => lhs; whnf
            have hq := Option.some.inj hm; clear hm; subst hq
            try simp only [ls]
            exact fq (y := some (AV.bool (false), []))
        · simp only [hc6, ls]
          conv => lhs; whnf
          refine bif_or2 hm ?_ ?_ <;> clear hm <;> intro hc11 hm
          · simp only [hc11, ls]
            conv => lhs; whnf
            refine bif_or2 hm ?_ ?_ <;> clear hm <;> intro hc12 hm
            · simp only [hc12, ls]
              conv => lhs; whnf
              refine bind_some2 hm ?_; clear hm; intro y13 hy13 hm
              have hk14 : call false 64 [AV.str (v0_x.f_Name)] [] = some (AV.bool (y13), []) := (hc _ _ _).trans (ok_ref01_Name n v0_x.f_Name y13 hy13)
              try simp only [List.drop_zero, ls]
              first | simp only [hk14] | rewrite [hk14]
              try simp only [ls]
              conv => lhs; whnf
              refine bif_or2 hm ?_ ?_ <;> clear hm <;> intro hc15 hm
              · simp only [hc15, ls]
                conv => lhs; whnf
                have hq := Option.some.inj hm; clear hm; subst hq
                try simp only [ls]
                exact fq (y := some (AV.bool ((v0_x.f_In == ([] : List UInt8))), []))
              · simp only [hc15, ls]
                conv => lhs; whnf
                have hq := Option.some.inj hm; clear hm; subst hq
                try simp only [ls]
                exact fq (y := some (AV.bool (false), []))
            · simp only [hc12, ls]
              conv => lhs; whnf
              have hq := Option.some.inj hm; clear hm; subst hq
              try simp only [ls]
              exact fq (y := some (AV.bool (false), []))
          · simp only [hc11, ls]
            conv => lhs; whnf
            refine bif_or2 hm ?_ ?_ <;> clear hm <;> intro hc16 hm
            · simp only [hc16, ls]
              conv => lhs; whnf
              refine bif_or2 hm ?_ ?_ <;> clear hm <;> intro hc17 hm
              · simp only [hc17, ls]
                conv => lhs; whnf
                refine bind_some2 hm ?_; clear hm; intro y18 hy18 hm
                have hk19 : call false 64 [AV.str (v0_x.f_Name)] [] = some (AV.bool (y18), []) := (hc _ _ _).trans (ok_ref01_Name n v0_x.f_Name y18 hy18)
                try simp only [List.drop_zero, ls]
                first | simp only [hk19] | rewrite [hk19]
                try simp only [ls]
                conv => lhs; whnf
                refine bif_or2 hm ?_ ?_ <;> clear hm <;> intro hc20 hm
                · simp only [hc20, ls]
                  conv => lhs; whnf
                  refine bind_some2 hm ?_; clear hm; intro y21 hy21 hm
                  have hk22 : call false 64 [AV.str (v0_x.f_In)] [] = some (AV.bool (y21), []) := (hc _ _ _).trans (ok_ref01_Name n v0_x.f_In y21 hy21)
                  try simp only [List.drop_zero, ls]
                  first | simp only [hk22] | rewrite [hk22]
                  try simp only [ls]
                  conv => lhs; whnf
                  have hq := Option.some.inj hm; clear hm; subst hq
                  try simp only [ls]
                  exact fq (y := some (AV.bool (y21), []))
                · simp only [hc20, ls]
                  conv => lhs; whnf
                  have hq := Option.some.inj hm; clear hm; subst hq
                  try simp only [ls]
                  exact fq (y := some (AV.bool (false), []))
              · simp only [hc17, ls]
                conv => lhs; whnf
                have hq := Option.some.inj hm; clear hm; subst hq
                try simp only [ls]
                exact fq (y := some (AV.bool (false), []))
            · simp only [hc16, ls]
              conv => lhs; whnf
              refine bif_or2 hm ?_ ?_ <;> clear hm <;> intro hc23 hm
              · simp only [hc23, ls]
                conv => lhs; whnf
                refine bif_or2 hm ?_ ?_ <;> clear hm <;> intro hc24 hm
                · simp only [hc24, ls]
                  conv => lhs; whnf
                  have hq := Option.some.inj hm; clear hm; subst hq
                  try simp only [ls]
                  exact fq (y := some (AV.bool ((v0_x.f_In == ([] : List UInt8))), []))
                · simp only [hc24, ls]
                  conv => lhs; whnf
                  have hq := Option.some.inj hm; clear hm; subst hq
                  try simp only [ls]
                  exact fq (y := some (AV.bool (false), []))
              · simp only [hc23, ls]
                conv => lhs; whnf
                have hq := Option.some.inj hm; clear hm; subst hq
                try simp only [ls]
                exact fq (y := some (AV.bool (false), []))

set_option maxHeartbeats 4000000 in
theorem ok_ref02_Right (n : Nat) : ∀ (v0_l : (List S_api_Node)) (r : Bool), m_ref02_Right n v0_l = some r → callN Try.prog HH XT n 29 [AV.sl 5 (List.map c_api_Node (v0_l))] [] = some (AV.bool (r), []) := by
  cases n with
  | zero => intro v0_l r hm; exact absurd hm (by intro h; cases h)
  | succ n =>
    intro v0_l r hm
    rw [m_ref02_Right] at hm
    refine callN_eq' Try.func29 (by rfl) rfl rfl (Nat.le_of_ble_eq_true rfl) ?_
    intro call hc
    conv => lhs; whnf
    refine bif_or2 hm ?_ ?_ <;> clear hm <;> intro hc1 hm
    · simp only [hc1, ls]
      conv => lhs; whnf
      have hq := Option.some.inj hm; clear hm; subst hq
      try simp only [ls]
      exact fq (y := some (AV.bool (false), []))
    · simp only [hc1, ls]
      conv => lhs; whnf
      refine bif_or2 hm ?_ ?_ <;> clear hm <;> intro hc2 hm
      · simp only [hc2, ls]
        conv => lhs; whnf
        have hq := Option.some.inj hm; clear hm; subst hq
        try simp only [ls]
        exact fq (y := some (AV.bool (false), []))
      · simp only [hc2, ls]
        conv => lhs; whnf
        refine bind_some2 hm ?_; clear hm; intro y3 hy3 hm
        have hk4 : call false 46 [AV.sl 5 (List.map c_api_Node (v0_l)), AV.int .i64 (0)] [] = some (AV.int .i64 (y3), []) := (hc _ _ _).trans (ok_ref02_End n v0_l 0 y3 hy3)
        try simp only [List.drop_zero, ls]
        first | simp only [hk4] | rewrite [hk4]
        try simp only [ls]
        conv => lhs; whnf
        refine bif_or2 hm ?_ ?_ <;> clear hm <;> intro hc5 hm
        · simp only [hc5, ls]
          conv => lhs; whnf
          have hq := Option.some.inj hm; clear hm; subst hq
          try simp only [ls]
          exact fq (y := some (AV.bool (false), []))
        · simp only [hc5, ls]
          conv => lhs; whnf
          refine bind_some2 hm ?_; clear hm; intro o14 ho14 hm
          refine rounds_sim (σ := Int) (τ := Unit) (ν := Bool) 0 (fun s6 a8 => stOf 34 [(0, AV.sl 5 (List.map c_api_Node (v0_l))), (3, AV.int .i64 (s6))]) (fun s6 a8 => []) (fun _ a20 => stOf 34 [(0, AV.sl 5 (List.map c_api_Node (v0_l)))]) (fun _ a20 => []) (fun v => (AV.bool (v), [])) (fun k s => ref02_Right_L0 n v0_l k s) (fun s => rfl) o14 ?_ n 0 (fun _ => 0) _ _ ho14 ?_ (by first | rfl | (simp only [ls, List.map_append, List.map_cons, List.map_nil, List.append_nil, List.length_set, length_copyL] <;> rfl)) (by first | rfl | (simp only [ls, List.map_append, List.map_cons, List.map_nil, List.append_nil, List.length_set, length_copyL] <;> rfl))
          · intro k7 ss a8 K9 cont10 hK11 hcont12 hm hr13
            obtain ⟨s6, rfl⟩ : ∃ x, x = ss := ⟨_, rfl⟩
            replace hm : ref02_Right_L0 n v0_l (k7 + 1) s6 = some o14 := hm
            rw [ref02_Right_L0] at hm
            conv => lhs; whnf
            refine bif_or2 hm ?_ ?_ <;> clear hm <;> intro hc15 hm
            · simp only [hc15, ls]
              conv => lhs; whnf
              refine bind_some2 hm ?_; clear hm; intro x16 hx16 hm
              refine bif_pos (by first | exact idx_in hx16 | exact idx_in' hx16) ?_
              simp only [idx_nth (f := c_api_Node) hx16, ls]
              conv => lhs; whnf
              refine bind_some2 hm ?_; clear hm; intro y17 hy17 hm
              have hk18 : call false 47 [AV.agg [AV.int .i64 (x16.f_Op), AV.int .i64 (x16.f_N), AV.str (x16.f_Name), AV.str (x16.f_In), AV.int .i64 (x16.f_At)]] [] = some (AV.bool (y17), []) := (hc _ _ _).trans (ok_ref02_node n x16 y17 hy17)
              try simp only [List.drop_zero, ls]
              first | simp only [hk18] | rewrite [hk18]
              try simp only [ls]
              conv => lhs; whnf
              refine bif_or2 hm ?_ ?_ <;> clear hm <;> intro hc19 hm
              · simp only [hc19, ls]
                conv => lhs; whnf
                exact cq (hcont12 (IntKind.i64.wrap (s6 + 1)) (fun _ => 0) hm)
              · simp only [hc19, ls]
                conv => lhs; whnf
                have hq := Option.some.inj hm; clear hm; subst hq
                refine (hK11 _ _).trans ?_
                refine Eq.trans ?_ (Eq.symm (show _ = some _ from hr13))
                conv => lhs; whnf
                try simp only [ls]
                exact fq (y := some (AV.bool (false), []))
            · simp only [hc15, ls]
              conv => lhs; whnf
              have hq := Option.some.inj hm; clear hm; subst hq
              exact kq (hr13 (fun _ => 0))
          · cases o14 with
            | ret v =>
              have hq := Option.some.inj hm; clear hm; subst hq
              rfl
            | out t =>
              intro a20
              dsimp only at hm
              conv => lhs; whnf
              refine bind_some2 hm ?_; clear hm; intro y21 hy21 hm
              have hk22 : call false 48 [AV.sl 5 (List.map c_api_Node (v0_l)), AV.int .i64 (0)] [] = some (AV.int .i64 (y21), []) := (hc _ _ _).trans (ok_ref02_deep n v0_l 0 y21 hy21)
              try simp only [List.drop_zero, ls]
              first | simp only [hk22] | rewrite [hk22]
              try simp only [ls]
              conv => lhs; whnf
              have hq := Option.some.inj hm; clear hm; subst hq
              try simp only [ls]
              exact fq (y := some (AV.bool (decide (y21 ≤ 30)), []))
end Go.Proofs.Ytmnnkeejgkhgpaa
end

section
namespace Go.Proofs.Ytmnnkeejgkhgpaa
set_option linter.unusedVariables false
set_option linter.unusedSimpArgs false
set_option maxRecDepth 100000

set_option maxHeartbeats 4000000 in
theorem ok_ref03_Light (n : Nat) : ∀ (v0_l : (List S_api_Stmt)) (r : Bool), m_ref03_Light n v0_l = some r → callN Try.prog HH XT n 25 [AV.sl 9 (List.map c_api_Stmt (v0_l))] [] = some (AV.bool (r), []) := by
  cases n with
  | zero => intro v0_l r hm; exact absurd hm (by intro h; cases h)
  | succ n =>
    intro v0_l r hm
    rw [m_ref03_Light] at hm
    refine callN_eq' Try.func25 (by rfl) rfl rfl (Nat.le_of_ble_eq_true rfl) ?_
    intro call hc
    conv => lhs; whnf
    refine bif_or2 hm ?_ ?_ <;> clear hm <;> intro hc1 hm
    · simp only [hc1, ls]
      conv => lhs; whnf
      have hq := Option.some.inj hm; clear hm; subst hq
      try simp only [ls]
      exact fq (y := some (AV.bool (false), []))
    · simp only [hc1, ls]
      conv => lhs; whnf
      refine bind_some2 hm ?_; clear hm; intro o10 ho10 hm
      refine rounds_sim (σ := Int) (τ := Unit) (ν := Bool) 0 (fun s2 a4 => stOf 47 [(0, AV.sl 9 (List.map c_api_Stmt (v0_l))), (3, AV.int .i64 (s2))]) (fun s2 a4 => []) (fun _ a24 => stOf 47 []) (fun _ a24 => []) (fun v => (AV.bool (v), [])) (fun k s => ref03_Light_L0 n v0_l k s) (fun s => rfl) o10 ?_ n 0 (fun _ => 0) _ _ ho10 ?_ (by first | rfl | (simp only [ls, List.map_append, List.map_cons, List.map_nil, List.append_nil, List.length_set, length_copyL] <;> rfl)) (by first | rfl | (simp only [ls, List.map_append, List.map_cons, List.map_nil, List.append_nil, List.length_set, length_copyL] <;> rfl))
      · intro k3 ss a4 K5 cont6 hK7 hcont8 hm hr9
        obtain ⟨s2, rfl⟩ : ∃ x, x = ss := ⟨_, rfl⟩
        replace hm : ref03_Light_L0 n v0_l (k3 + 1) s2 = some o10 := hm
        rw [ref03_Light_L0] at hm
        conv => lhs; whnf
        refine bif_or2 hm ?_ ?_ <;> clear hm <;> intro hc11 hm
        · simp only [hc11, ls]
          conv => lhs; whnf
          refine bind_some2 hm ?_; clear hm; intro x12 hx12 hm
          refine bif_pos (by first | exact idx_in hx12 | exact idx_in' hx12) ?_
          simp only [idx_nth (f := c_api_Stmt) hx12, ls]
          conv => lhs; whnf
          refine bif_or2 hm ?_ ?_ <;> clear hm <;> intro hc13 hm
          · simp only [hc13, ls]
            conv => lhs; whnf
            have hq := Option.some.inj hm; clear hm; subst hq
            refine (hK7 _ _).trans ?_
            refine Eq.trans ?_ (Eq.symm (show _ = some _ from hr9))
            conv => lhs; whnf
            try simp only [ls]
            exact fq (y := some (AV.bool (false), []))
          · simp only [hc13, ls]
            conv => lhs; whnf
            refine bind_some2 hm ?_; clear hm; intro x14 hx14 hm
            refine bif_pos (by first | exact idx_in hx14 | exact idx_in' hx14) ?_
            simp only [idx_nth (f := c_api_Stmt) hx14, ls]
            conv => lhs; whnf
            refine bif_or2 hm ?_ ?_ <;> clear hm <;> intro hc15 hm
            · simp only [hc15, ls]
              conv => lhs; whnf
              have hq := Option.some.inj hm; clear hm; subst hq
              refine (hK7 _ _).trans ?_
              refine Eq.trans ?_ (Eq.symm (show _ = some _ from hr9))
              conv => lhs; whnf
              try simp only [ls]
              exact fq (y := some (AV.bool (false), []))
            · simp only [hc15, ls]
              conv => lhs; whnf
              refine bind_some2 hm ?_; clear hm; intro x16 hx16 hm
              refine bif_pos (by first | exact idx_in hx16 | exact idx_in' hx16) ?_
              simp only [idx_nth (f := c_api_Stmt) hx16, ls]
              conv => lhs; whnf
              refine bind_some2 hm ?_; clear hm; intro y17 hy17 hm
              have hk18 : call false 8 [AV.sl 5 (List.map c_api_Node (x16.f_E))] [] = some (AV.bool (y17), []) := (hc _ _ _).trans (ok_ref02_Light n x16.f_E y17 hy17)
              try simp only [List.drop_zero, ls]
              first | simp only [hk18] | rewrite [hk18]
              try simp only [ls]
              conv => lhs; whnf
              refine bif_or2 hm ?_ ?_ <;> clear hm <;> intro hc19 hm
              · simp only [hc19, ls]
                conv => lhs; whnf
                refine bind_some2 hm ?_; clear hm; intro x20 hx20 hm
                refine bif_pos (by first | exact idx_in hx20 | exact idx_in' hx20) ?_
                simp only [idx_nth (f := c_api_Stmt) hx20, ls]
                conv => lhs; whnf
                refine bind_some2 hm ?_; clear hm; intro y21 hy21 hm
                have hk22 : call false 8 [AV.sl 5 (List.map c_api_Node (x20.f_F))] [] = some (AV.bool (y21), []) := (hc _ _ _).trans (ok_ref02_Light n x20.f_F y21 hy21)
                try simp only [List.drop_zero, ls]
                first | simp only [hk22] | rewrite [hk22]
                try simp only [ls]
                conv => lhs; whnf
                refine bif_or2 hm ?_ ?_ <;> clear hm <;> intro hc23 hm
                · simp only [hc23, ls]
                  conv => lhs; whnf
                  exact cq (hcont8 (IntKind.i64.wrap (s2 + 1)) (fun _ => 0) hm)
                · simp only [hc23, ls]
                  conv => lhs; whnf
                  have hq := Option.some.inj hm; clear hm; subst hq
                  refine (hK7 _ _).trans ?_
                  refine Eq.trans ?_ (Eq.symm (show _ = some _ from hr9))
                  conv => lhs; whnf
                  try simp only [ls]
                  exact fq (y := some (AV.bool (false), []))
              · simp only [hc19, ls]
                conv => lhs; whnf
                have hq := Option.some.inj hm; clear hm; subst hq
                refine (hK7 _ _).trans ?_
                refine Eq.trans ?_ (Eq.symm (show _ = some _ from hr9))
                conv => lhs; whnf
                try simp only [ls]
                exact fq (y := some (AV.bool (false), []))
        · simp only [hc11, ls]
          conv => lhs; whnf
          have hq := Option.some.inj hm; clear hm; subst hq
          exact kq (hr9 (fun _ => 0))
      · cases o10 with
        | ret v =>
          have hq := Option.some.inj hm; clear hm; subst hq
          rfl
        | out t =>
          intro a24
          dsimp only at hm
          conv => lhs; whnf
          have hq := Option.some.inj hm; clear hm; subst hq
          try simp only [ls]
          exact fq (y := some (AV.bool (true), []))
end Go.Proofs.Ytmnnkeejgkhgpaa
end

section
namespace Go.Proofs.Ytmnnkeejgkhgpaa
set_option linter.unusedVariables false
set_option linter.unusedSimpArgs false
set_option maxRecDepth 100000

set_option maxHeartbeats 4000000 in
theorem ok_ref04_Light (n : Nat) : ∀ (v0_p : S_api_Prog) (r : Bool), m_ref04_Light n v0_p = some r → callN Try.prog HH XT n 9 [AV.agg [AV.int .i64 (v0_p.f_Mod), AV.sl 3 (List.map c_api_Var (v0_p.f_Locs)), AV.sl 4 (List.map c_api_Thread (v0_p.f_Threads)), AV.sl 3 (List.map c_api_Claim (v0_p.f_Claims))]] [] = some (AV.bool (r), []) := by
  cases n with
  | zero => intro v0_p r hm; exact absurd hm (by intro h; cases h)
  | succ n =>
    intro v0_p r hm
    rw [m_ref04_Light] at hm
    refine callN_eq' Try.func9 (by rfl) rfl rfl (Nat.le_of_ble_eq_true rfl) ?_
    intro call hc
    conv => lhs; whnf
    refine bif_or2 hm ?_ ?_ <;> clear hm <;> intro hc1 hm
    · simp only [hc1, ls]
      conv => lhs; whnf
      have hq := Option.some.inj hm; clear hm; subst hq
      try simp only [ls]
      exact fq (y := some (AV.bool (false), []))
    · simp only [hc1, ls]
      conv => lhs; whnf
      refine bif_or2 hm ?_ ?_ <;> clear hm <;> intro hc2 hm
      · simp only [hc2, ls]
        conv => lhs; whnf
        have hq := Option.some.inj hm; clear hm; subst hq
        try simp only [ls]
        exact fq (y := some (AV.bool (false), []))
      · simp only [hc2, ls]
        conv => lhs; whnf
        refine bif_or2 hm ?_ ?_ <;> clear hm <;> intro hc3 hm
        · simp only [hc3, ls]
          conv => lhs; whnf
          have hq := Option.some.inj hm; clear hm; subst hq
          try simp only [ls]
          exact fq (y := some (AV.bool (false), []))
        · simp only [hc3, ls]
          conv => lhs; whnf
          refine bind_some2 hm ?_; clear hm; intro o12 ho12 hm
          refine rounds_sim (σ := Int) (τ := Unit) (ν := Bool) 0 (fun s4 a6 => stOf 96 [(1, AV.ptr 0 0), (3, AV.int .i64 (s4))]) (fun s4 a6 => [Ob.var 28 [AV.int .i64 (v0_p.f_Mod), AV.sl 3 (List.map c_api_Var (v0_p.f_Locs)), AV.sl 4 (List.map c_api_Thread (v0_p.f_Threads)), AV.sl 3 (List.map c_api_Claim (v0_p.f_Claims))]]) (fun _ a16 => stOf 96 [(1, AV.ptr 0 0)]) (fun _ a16 => [Ob.var 28 [AV.int .i64 (v0_p.f_Mod), AV.sl 3 (List.map c_api_Var (v0_p.f_Locs)), AV.sl 4 (List.map c_api_Thread (v0_p.f_Threads)), AV.sl 3 (List.map c_api_Claim (v0_p.f_Claims))]]) (fun v => (AV.bool (v), [])) (fun k s => ref04_Light_L0 n v0_p k s) (fun s => rfl) o12 ?_ n 0 (fun _ => 0) _ _ ho12 ?_ (by first | rfl | (simp only [ls, List.map_append, List.map_cons, List.map_nil, List.append_nil, List.length_set, length_copyL] <;> rfl)) (by first | rfl | (simp only [ls, List.map_append, List.map_cons, List.map_nil, List.append_nil, List.length_set, length_copyL] <;> rfl))
          · intro k5 ss a6 K7 cont8 hK9 hcont10 hm hr11
            obtain ⟨s4, rfl⟩ : ∃ x, x = ss := ⟨_, rfl⟩
            replace hm : ref04_Light_L0 n v0_p (k5 + 1) s4 = some o12 := hm
            rw [ref04_Light_L0] at hm
            conv => lhs; whnf
            refine bif_or2 hm ?_ ?_ <;> clear hm <;> intro hc13 hm
            · simp only [hc13, ls]
              conv => lhs; whnf
              refine bind_some2 hm ?_; clear hm; intro x14 hx14 hm
              refine bif_pos (by first | exact idx_in hx14 | exact idx_in' hx14) ?_
              simp only [idx_nth (f := c_api_Var) hx14, ls]
              conv => lhs; whnf
              refine bif_or2 hm ?_ ?_ <;> clear hm <;> intro hc15 hm
              · simp only [hc15, ls]
                conv => lhs; whnf
                have hq := Option.some.inj hm; clear hm; subst hq
                refine (hK9 _ _).trans ?_
                refine Eq.trans ?_ (Eq.symm (show _ = some _ from hr11))
                conv => lhs; whnf
                try simp only [ls]
                exact fq (y := some (AV.bool (false), []))
              · simp only [hc15, ls]
                conv => lhs; whnf
                exact cq (hcont10 (IntKind.i64.wrap (s4 + 1)) (fun _ => 0) hm)
            · simp only [hc13, ls]
              conv => lhs; whnf
              have hq := Option.some.inj hm; clear hm; subst hq
              exact kq (hr11 (fun _ => 0))
          · cases o12 with
            | ret v =>
              have hq := Option.some.inj hm; clear hm; subst hq
              rfl
            | out t =>
              intro a16
              dsimp only at hm
              conv => lhs; whnf
              refine bind_some2 hm ?_; clear hm; intro o25 ho25 hm
              refine rounds_sim (σ := Int) (τ := Unit) (ν := Bool) 2 (fun s17 a19 => stOf 96 [(1, AV.ptr 0 0), (4, AV.int .i64 (s17))]) (fun s17 a19 => [Ob.var 28 [AV.int .i64 (v0_p.f_Mod), AV.sl 3 (List.map c_api_Var (v0_p.f_Locs)), AV.sl 4 (List.map c_api_Thread (v0_p.f_Threads)), AV.sl 3 (List.map c_api_Claim (v0_p.f_Claims))]]) (fun _ a47 => stOf 96 [(1, AV.ptr 0 0)]) (fun _ a47 => [Ob.var 28 [AV.int .i64 (v0_p.f_Mod), AV.sl 3 (List.map c_api_Var (v0_p.f_Locs)), AV.sl 4 (List.map c_api_Thread (v0_p.f_Threads)), AV.sl 3 (List.map c_api_Claim (v0_p.f_Claims))]]) (fun v => (AV.bool (v), [])) (fun k s => ref04_Light_L1 n v0_p k s) (fun s => rfl) o25 ?_ n 0 (fun _ => 0) _ _ ho25 ?_ (by first | rfl | (simp only [ls, List.map_append, List.map_cons, List.map_nil, List.append_nil, List.length_set, length_copyL] <;> rfl)) (by first | rfl | (simp only [ls, List.map_append, List.map_cons, List.map_nil, List.append_nil, List.length_set, length_copyL] <;> rfl))
              · intro k18 ss a19 K20 cont21 hK22 hcont23 hm hr24
                obtain ⟨s17, rfl⟩ : ∃ x, x = ss := ⟨_, rfl⟩
                replace hm : ref04_Light_L1 n v0_p (k18 + 1) s17 = some o25 := hm
                rw [ref04_Light_L1] at hm
                conv => lhs; whnf
                refine bif_or2 hm ?_ ?_ <;> clear hm <;> intro hc26 hm
                · simp only [hc26, ls]
                  conv => lhs; whnf
                  refine bind_some2 hm ?_; clear hm; intro x27 hx27 hm
                  refine bif_pos (by first | exact idx_in hx27 | exact idx_in' hx27) ?_
                  simp only [idx_nth (f := c_api_Thread) hx27, ls]
                  conv => lhs; whnf
                  refine bif_or2 hm ?_ ?_ <;> clear hm <;> intro hc28 hm
                  · simp only [hc28, ls]
                    conv => lhs; whnf
                    have hq := Option.some.inj hm; clear hm; subst hq
                    refine (hK22 _ _).trans ?_
                    refine Eq.trans ?_ (Eq.symm (show _ = some _ from hr24))
                    conv => lhs; whnf
                    try simp only [ls]
                    exact fq (y := some (AV.bool (false), []))
                  · simp only [hc28, ls]
                    conv => lhs; whnf
                    refine bif_or2 hm ?_ ?_ <;> clear hm <;> intro hc29 hm
                    · simp only [hc29, ls]
                      conv => lhs; whnf
                      have hq := Option.some.inj hm; clear hm; subst hq
                      refine (hK22 _ _).trans ?_
                      refine Eq.trans ?_ (Eq.symm (show _ = some _ from hr24))
                      conv => lhs; whnf
                      try simp only [ls]
                      exact fq (y := some (AV.bool (false), []))
                    · simp only [hc29, ls]
                      conv => lhs; whnf
                      refine bind_some2 hm ?_; clear hm; intro y30 hy30 hm
                      have hk31 : call false 25 [AV.sl 9 (List.map c_api_Stmt (x27.f_Body))] [] = some (AV.bool (y30), []) := (hc _ _ _).trans (ok_ref03_Light n x27.f_Body y30 hy30)
                      try simp only [List.drop_zero, ls]
                      first | simp only [hk31] | rewrite [hk31]
                      try simp only [ls]
                      conv => lhs; whnf
                      refine bif_or2 hm ?_ ?_ <;> clear hm <;> intro hc32 hm
                      · simp only [hc32, ls]
                        conv => lhs; whnf
                        refine bind_some2 hm ?_; clear hm; intro o41 ho41 hm
                        refine rounds_sim (σ := Int) (τ := Unit) (ν := Bool) 4 (fun s33 a35 => stOf 96 [(1, AV.ptr 0 0), (4, AV.int .i64 (s17)), (5, AV.ptr 1 0), (6, AV.int .i64 (s33))]) (fun s33 a35 => [Ob.var 28 [AV.int .i64 (v0_p.f_Mod), AV.sl 3 (List.map c_api_Var (v0_p.f_Locs)), AV.sl 4 (List.map c_api_Thread (v0_p.f_Threads)), AV.sl 3 (List.map c_api_Claim (v0_p.f_Claims))], Ob.var 62 [AV.str (x27.f_Name), AV.sl 1 (List.map encS (x27.f_Regs)), AV.sl 9 (List.map c_api_Stmt (x27.f_Body)), AV.int .i64 (x27.f_At)]]) (fun _ a45 => stOf 96 [(1, AV.ptr 0 0), (4, AV.int .i64 (s17))]) (fun _ a45 => [Ob.var 28 [AV.int .i64 (v0_p.f_Mod), AV.sl 3 (List.map c_api_Var (v0_p.f_Locs)), AV.sl 4 (List.map c_api_Thread (v0_p.f_Threads)), AV.sl 3 (List.map c_api_Claim (v0_p.f_Claims))], Ob.var 62 [AV.str (x27.f_Name), AV.sl 1 (List.map encS (x27.f_Regs)), AV.sl 9 (List.map c_api_Stmt (x27.f_Body)), AV.int .i64 (x27.f_At)]]) (fun v => (AV.bool (v), [])) (fun k s => ref04_Light_L2 n x27 k s) (fun s => rfl) o41 ?_ n 0 (fun _ => 0) _ _ ho41 ?_ (by first | rfl | (simp only [ls, List.map_append, List.map_cons, List.map_nil, List.append_nil, List.length_set, length_copyL] <;> rfl)) (by first | rfl | (simp only [ls, List.map_append, List.map_cons, List.map_nil, List.append_nil, List.length_set, length_copyL] <;> rfl))
                        · intro k34 ss a35 K36 cont37 hK38 hcont39 hm hr40
                          obtain ⟨s33, rfl⟩ : ∃ x, x = ss := ⟨_, rfl⟩
                          replace hm : ref04_Light_L2 n x27 (k34 + 1) s33 = some o41 := hm
                          rw [ref04_Light_L2] at hm
                          conv => lhs; whnf
                          refine bif_or2 hm ?_ ?_ <;> clear hm <;> intro hc42 hm
                          · simp only [hc42, ls]
                            conv => lhs; whnf
                            refine bind_some2 hm ?_; clear hm; intro x43 hx43 hm
                            refine bif_pos (by first | exact idx_in hx43 | exact idx_in' hx43) ?_
                            simp only [idx_nth (f := encS) hx43, ls]
                            conv => lhs; whnf
                            refine bif_or2 hm ?_ ?_ <;> clear hm <;> intro hc44 hm
                            · simp only [hc44, ls]
                              conv => lhs; whnf
                              have hq := Option.some.inj hm; clear hm; subst hq
                              refine (hK38 _ _).trans ?_
                              conv => lhs; whnf
                              refine (hK22 _ _).trans ?_
                              refine Eq.trans ?_ (Eq.symm (show _ = some _ from hr40))
                              conv => lhs; whnf
                              try simp only [ls]
                              exact fq (y := some (AV.bool (false), []))
                            · simp only [hc44, ls]
                              conv => lhs; whnf
                              exact cq (hcont39 (IntKind.i64.wrap (s33 + 1)) (fun _ => 0) hm)
                          · simp only [hc42, ls]
                            conv => lhs; whnf
                            have hq := Option.some.inj hm; clear hm; subst hq
                            exact kq (hr40 (fun _ => 0))
                        · cases o41 with
                          | ret v =>
                            have hq := Option.some.inj hm; clear hm; subst hq
                            exact hr24
                          | out t =>
                            intro a45
                            dsimp only at hm
                            conv => lhs; whnf
                            exact cq (hcont23 (IntKind.i64.wrap (s17 + 1)) (fun _ => 0) hm)
                      · simp only [hc32, ls]
                        conv => lhs; whnf
                        have hq := Option.some.inj hm; clear hm; subst hq
                        refine (hK22 _ _).trans ?_
                        refine Eq.trans ?_ (Eq.symm (show _ = some _ from hr24))
                        conv => lhs; whnf
                        try simp only [ls]
                        exact fq (y := some (AV.bool (false), []))
                · simp only [hc26, ls]
                  conv => lhs; whnf
                  have hq := Option.some.inj hm; clear hm; subst hq
                  exact kq (hr24 (fun _ => 0))
              · cases o25 with
                | ret v =>
                  have hq := Option.some.inj hm; clear hm; subst hq
                  rfl
                | out t =>
                  intro a47
                  dsimp only at hm
                  conv => lhs; whnf
                  refine bind_some2 hm ?_; clear hm; intro o56 ho56 hm
                  refine rounds_sim (σ := Int) (τ := Unit) (ν := Bool) 6 (fun s48 a50 => stOf 96 [(1, AV.ptr 0 0), (7, AV.int .i64 (s48))]) (fun s48 a50 => [Ob.var 28 [AV.int .i64 (v0_p.f_Mod), AV.sl 3 (List.map c_api_Var (v0_p.f_Locs)), AV.sl 4 (List.map c_api_Thread (v0_p.f_Threads)), AV.sl 3 (List.map c_api_Claim (v0_p.f_Claims))]]) (fun _ a62 => stOf 96 []) (fun _ a62 => [Ob.var 28 [AV.int .i64 (v0_p.f_Mod), AV.sl 3 (List.map c_api_Var (v0_p.f_Locs)), AV.sl 4 (List.map c_api_Thread (v0_p.f_Threads)), AV.sl 3 (List.map c_api_Claim (v0_p.f_Claims))]]) (fun v => (AV.bool (v), [])) (fun k s => ref04_Light_L3 n v0_p k s) (fun s => rfl) o56 ?_ n 0 (fun _ => 0) _ _ ho56 ?_ (by first | rfl | (simp only [ls, List.map_append, List.map_cons, List.map_nil, List.append_nil, List.length_set, length_copyL] <;> rfl)) (by first | rfl | (simp only [ls, List.map_append, List.map_cons, List.map_nil, List.append_nil, List.length_set, length_copyL] <;> rfl))
                  · intro k49 ss a50 K51 cont52 hK53 hcont54 hm hr55
                    obtain ⟨s48, rfl⟩ : ∃ x, x = ss := ⟨_, rfl⟩
                    replace hm : ref04_Light_L3 n v0_p (k49 + 1) s48 = some o56 := hm
                    rw [ref04_Light_L3] at hm
                    conv => lhs; whnf
                    refine bif_or2 hm ?_ ?_ <;> clear hm <;> intro hc57 hm
                    · simp only [hc57, ls]
                      conv => lhs; whnf
                      refine bind_some2 hm ?_; clear hm; intro x58 hx58 hm
                      refine bif_pos (by first | exact idx_in hx58 | exact idx_in' hx58) ?_
                      simp only [idx_nth (f := c_api_Claim) hx58, ls]
                      conv => lhs; whnf
                      refine bind_some2 hm ?_; clear hm; intro y59 hy59 hm
                      have hk60 : call false 8 [AV.sl 5 (List.map c_api_Node (x58.f_E))] [] = some (AV.bool (y59), []) := (hc _ _ _).trans (ok_ref02_Light n x58.f_E y59 hy59)
                      try simp only [List.drop_zero, ls]
                      first | simp only [hk60] | rewrite [hk60]
                      try simp only [ls]
                      conv => lhs; whnf
                      refine bif_or2 hm ?_ ?_ <;> clear hm <;> intro hc61 hm
                      · simp only [hc61, ls]
                        conv => lhs; whnf
                        exact cq (hcont54 (IntKind.i64.wrap (s48 + 1)) (fun _ => 0) hm)
                      · simp only [hc61, ls]
                        conv => lhs; whnf
                        have hq := Option.some.inj hm; clear hm; subst hq
                        refine (hK53 _ _).trans ?_
                        refine Eq.trans ?_ (Eq.symm (show _ = some _ from hr55))
                        conv => lhs; whnf
                        try simp only [ls]
                        exact fq (y := some (AV.bool (false), []))
                    · simp only [hc57, ls]
                      conv => lhs; whnf
                      have hq := Option.some.inj hm; clear hm; subst hq
                      exact kq (hr55 (fun _ => 0))
                  · cases o56 with
                    | ret v =>
                      have hq := Option.some.inj hm; clear hm; subst hq
                      rfl
                    | out t =>
                      intro a62
                      dsimp only at hm
                      conv => lhs; whnf
                      have hq := Option.some.inj hm; clear hm; subst hq
                      try simp only [ls]
                      exact fq (y := some (AV.bool (true), []))
end Go.Proofs.Ytmnnkeejgkhgpaa
end

section
namespace Go.Proofs.Ytmnnkeejgkhgpaa
set_option linter.unusedVariables false
set_option linter.unusedSimpArgs false
set_option maxRecDepth 100000

set_option maxHeartbeats 4000000 in
theorem ok_ref05_Index (n : Nat) : ∀ (v0_l : (List (List UInt8))) (v1_name : (List UInt8)) (r : Int), m_ref05_Index n v0_l v1_name = some r → callN Try.prog HH XT n 30 [AV.sl 1 (List.map encS (v0_l)), AV.str (v1_name)] [] = some (AV.int .i64 (r), []) := by
  cases n with
  | zero => intro v0_l v1_name r hm; exact absurd hm (by intro h; cases h)
  | succ n =>
    intro v0_l v1_name r hm
    rw [m_ref05_Index] at hm
    refine callN_eq' Try.func30 (by rfl) rfl rfl (Nat.le_of_ble_eq_true rfl) ?_
    intro call hc
    conv => lhs; whnf
    refine bind_some2 hm ?_; clear hm; intro o9 ho9 hm
    refine rounds_sim (σ := Int) (τ := Unit) (ν := Int) 0 (fun s1 a3 => stOf 19 [(0, AV.sl 1 (List.map encS (v0_l))), (1, AV.str (v1_name)), (5, AV.int .i64 (s1))]) (fun s1 a3 => []) (fun _ a13 => stOf 19 []) (fun _ a13 => []) (fun v => (AV.int .i64 (v), [])) (fun k s => ref05_Index_L0 n v0_l v1_name k s) (fun s => rfl) o9 ?_ n 0 (fun _ => 0) _ _ ho9 ?_ (by first | rfl | (simp only [ls, List.map_append, List.map_cons, List.map_nil, List.append_nil, List.length_set, length_copyL] <;> rfl)) (by first | rfl | (simp only [ls, List.map_append, List.map_cons, List.map_nil, List.append_nil, List.length_set, length_copyL] <;> rfl))
    · intro k2 ss a3 K4 cont5 hK6 hcont7 hm hr8
      obtain ⟨s1, rfl⟩ : ∃ x, x = ss := ⟨_, rfl⟩
      replace hm : ref05_Index_L0 n v0_l v1_name (k2 + 1) s1 = some o9 := hm
      rw [ref05_Index_L0] at hm
      conv => lhs; whnf
      refine bif_or2 hm ?_ ?_ <;> clear hm <;> intro hc10 hm
      · simp only [hc10, ls]
        conv => lhs; whnf
        refine bind_some2 hm ?_; clear hm; intro x11 hx11 hm
        refine bif_pos (by first | exact idx_in hx11 | exact idx_in' hx11) ?_
        simp only [idx_nth (f := encS) hx11, ls]
        conv => lhs; whnf
        refine bif_or2 hm ?_ ?_ <;> clear hm <;> intro hc12 hm
        · simp only [hc12, ls]
          conv => lhs; whnf
          have hq := Option.some.inj hm; clear hm; subst hq
          refine (hK6 _ _).trans ?_
          refine Eq.trans ?_ (Eq.symm (show _ = some _ from hr8))
          conv => lhs; whnf
          try simp only [ls]
          exact fq (y := some (AV.int .i64 (s1), []))
        · simp only [hc12, ls]
          conv => lhs; whnf
          exact cq (hcont7 (IntKind.i64.wrap (s1 + 1)) (fun _ => 0) hm)
      · simp only [hc10, ls]
        conv => lhs; whnf
        have hq := Option.some.inj hm; clear hm; subst hq
        exact kq (hr8 (fun _ => 0))
    · cases o9 with
      | ret v =>
        have hq := Option.some.inj hm; clear hm; subst hq
        rfl
      | out t =>
        intro a13
        dsimp only at hm
        conv => lhs; whnf
        have hq := Option.some.inj hm; clear hm; subst hq
        try simp only [ls]
        exact fq (y := some (AV.int .i64 ((-1)), []))

set_option maxHeartbeats 4000000 in
theorem ok_ref05_Locs (n : Nat) : ∀ (v0_p : S_api_Prog) (r : (List (List UInt8))), m_ref05_Locs n v0_p = some r → callN Try.prog HH XT n 34 [AV.agg [AV.int .i64 (v0_p.f_Mod), AV.sl 3 (List.map c_api_Var (v0_p.f_Locs)), AV.sl 4 (List.map c_api_Thread (v0_p.f_Threads)), AV.sl 3 (List.map c_api_Claim (v0_p.f_Claims))]] [] = some (AV.sl 1 (List.map encS (r)), []) := by
  cases n with
  | zero => intro v0_p r hm; exact absurd hm (by intro h; cases h)
  | succ n =>
    intro v0_p r hm
    rw [m_ref05_Locs] at hm
    refine callN_eq' Try.func34 (by rfl) rfl rfl (Nat.le_of_ble_eq_true rfl) ?_
    intro call hc
    conv => lhs; whnf
    refine bind_some2 hm ?_; clear hm; intro o10 ho10 hm
    refine rounds_sim (σ := (Int × (List (List UInt8)))) (τ := (List (List UInt8))) (ν := (List (List UInt8))) 0 (fun (s1, s2) a4 => stOf 22 [(1, AV.ptr 0 0), (3, AV.row 1 (List.length (s2))), (4, AV.int .i64 (s1))]) (fun (s1, s2) a4 => [Ob.var 28 [AV.int .i64 (v0_p.f_Mod), AV.sl 3 (List.map c_api_Var (v0_p.f_Locs)), AV.sl 4 (List.map c_api_Thread (v0_p.f_Threads)), AV.sl 3 (List.map c_api_Claim (v0_p.f_Claims))], Ob.row 9 1 (List.map encS (s2))]) (fun x17 a16 => stOf 22 [(3, AV.row 1 (List.length (x17)))]) (fun x17 a16 => [Ob.var 28 [AV.int .i64 (v0_p.f_Mod), AV.sl 3 (List.map c_api_Var (v0_p.f_Locs)), AV.sl 4 (List.map c_api_Thread (v0_p.f_Threads)), AV.sl 3 (List.map c_api_Claim (v0_p.f_Claims))], Ob.row 9 1 (List.map encS (x17))]) (fun v => (AV.sl 1 (List.map encS (v)), [])) (fun k s => ref05_Locs_L0 n v0_p k ((s).1) ((s).2)) (fun s => rfl) o10 ?_ n (0, ([] : List (List UInt8))) (fun _ => 0) _ _ ho10 ?_ (by first | rfl | (simp only [ls, List.map_append, List.map_cons, List.map_nil, List.append_nil, List.length_set, length_copyL] <;> rfl)) (by first | rfl | (simp only [ls, List.map_append, List.map_cons, List.map_nil, List.append_nil, List.length_set, length_copyL] <;> rfl))
    · intro k3 ss a4 K5 cont6 hK7 hcont8 hm hr9
      obtain ⟨s1, s2⟩ := ss
      replace hm : ref05_Locs_L0 n v0_p (k3 + 1) s1 s2 = some o10 := hm
      rw [ref05_Locs_L0] at hm
      conv => lhs; whnf
      refine bif_or2 hm ?_ ?_ <;> clear hm <;> intro hc11 hm
      · simp only [hc11, ls]
        conv => lhs; whnf
        refine bind_some2 hm ?_; clear hm; intro x12 hx12 hm
        refine bif_pos (by first | exact idx_in hx12 | exact idx_in' hx12) ?_
        simp only [idx_nth (f := c_api_Var) hx12, ls]
        conv => lhs; whnf
        refine chk_some2 hm ?_; clear hm; intro hc15 hm
        refine bif_pos (app_row hc15 (by first | rfl | simp only [List.length_map]) (by first | rfl | simp only [List.length_map]) (by first | rfl | simp only [List.length_map, take_map_len]) (by kernel_rfl)) ?_
        try simp only [lt]
        have hp13 : (List.map encS (s2) : List (List AV)) ++ [[AV.str (x12.f_Name)]] = List.map encS (s2 ++ ([x12.f_Name] : List (List UInt8))) := by first | rfl | (rw [List.map_append]; rfl) | (rw [List.map_append]; done) | (simp only [List.map_append, List.map_cons, List.map_nil, List.nil_append, encS] <;> rfl)
        have hl14 : List.length (List.map encS (s2) : List (List AV)) + List.length ([[AV.str (x12.f_Name)]] : List (List AV)) = List.length (s2 ++ ([x12.f_Name] : List (List UInt8))) := by simp only [List.length_map, List.length_append] <;> rfl
        have hl14_b : List.length s2 + List.length ([[AV.str (x12.f_Name)]] : List (List AV)) = List.length (s2 ++ ([x12.f_Name] : List (List UInt8))) := by simp only [List.length_map, List.length_append] <;> rfl
        have hl14_c : List.length s2 + List.length ([x12.f_Name] : List (List UInt8)) = List.length (s2 ++ ([x12.f_Name] : List (List UInt8))) := by simp only [List.length_map, List.length_append] <;> rfl
        first | simp only [hp13, hl14] | (simp only [List.length_map, take_map_len]; simp only [hp13, hl14_b, hl14_c])
        try simp only [ls]
        conv => lhs; whnf
        exact cq (hcont8 (IntKind.i64.wrap (s1 + 1), (s2 ++ ([x12.f_Name] : List (List UInt8)))) (fun _ => 0) hm)
      · simp only [hc11, ls]
        conv => lhs; whnf
        have hq := Option.some.inj hm; clear hm; subst hq
        exact kq (hr9 (fun _ => 0))
    · cases o10 with
      | ret v =>
        have hq := Option.some.inj hm; clear hm; subst hq
        rfl
      | out t =>
        obtain ⟨x17, rfl⟩ : ∃ x, x = t := ⟨_, rfl⟩
        intro a16
        dsimp only at hm
        conv => lhs; whnf
        have hq := Option.some.inj hm; clear hm; subst hq
        try simp only [ls]
        exact fq (y := some (AV.sl 1 (List.take (List.length (x17)) (List.map encS (x17))), []))

set_option maxHeartbeats 4000000 in
theorem ok_ref05_Threads (n : Nat) : ∀ (v0_p : S_api_Prog) (r : (List (List UInt8))), m_ref05_Threads n v0_p = some r → callN Try.prog HH XT n 35 [AV.agg [AV.int .i64 (v0_p.f_Mod), AV.sl 3 (List.map c_api_Var (v0_p.f_Locs)), AV.sl 4 (List.map c_api_Thread (v0_p.f_Threads)), AV.sl 3 (List.map c_api_Claim (v0_p.f_Claims))]] [] = some (AV.sl 1 (List.map encS (r)), []) := by
  cases n with
  | zero => intro v0_p r hm; exact absurd hm (by intro h; cases h)
  | succ n =>
    intro v0_p r hm
    rw [m_ref05_Threads] at hm
    refine callN_eq' Try.func35 (by rfl) rfl rfl (Nat.le_of_ble_eq_true rfl) ?_
    intro call hc
    conv => lhs; whnf
    refine bind_some2 hm ?_; clear hm; intro o10 ho10 hm
    refine rounds_sim (σ := (Int × (List (List UInt8)))) (τ := (List (List UInt8))) (ν := (List (List UInt8))) 0 (fun (s1, s2) a4 => stOf 22 [(1, AV.ptr 0 0), (3, AV.row 1 (List.length (s2))), (4, AV.int .i64 (s1))]) (fun (s1, s2) a4 => [Ob.var 28 [AV.int .i64 (v0_p.f_Mod), AV.sl 3 (List.map c_api_Var (v0_p.f_Locs)), AV.sl 4 (List.map c_api_Thread (v0_p.f_Threads)), AV.sl 3 (List.map c_api_Claim (v0_p.f_Claims))], Ob.row 9 1 (List.map encS (s2))]) (fun x17 a16 => stOf 22 [(3, AV.row 1 (List.length (x17)))]) (fun x17 a16 => [Ob.var 28 [AV.int .i64 (v0_p.f_Mod), AV.sl 3 (List.map c_api_Var (v0_p.f_Locs)), AV.sl 4 (List.map c_api_Thread (v0_p.f_Threads)), AV.sl 3 (List.map c_api_Claim (v0_p.f_Claims))], Ob.row 9 1 (List.map encS (x17))]) (fun v => (AV.sl 1 (List.map encS (v)), [])) (fun k s => ref05_Threads_L0 n v0_p k ((s).1) ((s).2)) (fun s => rfl) o10 ?_ n (0, ([] : List (List UInt8))) (fun _ => 0) _ _ ho10 ?_ (by first | rfl | (simp only [ls, List.map_append, List.map_cons, List.map_nil, List.append_nil, List.length_set, length_copyL] <;> rfl)) (by first | rfl | (simp only [ls, List.map_append, List.map_cons, List.map_nil, List.append_nil, List.length_set, length_copyL] <;> rfl))
    · intro k3 ss a4 K5 cont6 hK7 hcont8 hm hr9
      obtain ⟨s1, s2⟩ := ss
      replace hm : ref05_Threads_L0 n v0_p (k3 + 1) s1 s2 = some o10 := hm
      rw [ref05_Threads_L0] at hm
      conv => lhs; whnf
      refine bif_or2 hm ?_ ?_ <;> clear hm <;> intro hc11 hm
      · simp only [hc11, ls]
        conv => lhs; whnf
        refine bind_some2 hm ?_; clear hm; intro x12 hx12 hm
        refine bif_pos (by first | exact idx_in hx12 | exact idx_in' hx12) ?_
        simp only [idx_nth (f := c_api_Thread) hx12, ls]
        conv => lhs; whnf
        refine chk_some2 hm ?_; clear hm; intro hc15 hm
        refine bif_pos (app_row hc15 (by first | rfl | simp only [List.length_map]) (by first | rfl | simp only [List.length_map]) (by first | rfl | simp only [List.length_map, take_map_len]) (by kernel_rfl)) ?_
        try simp only [lt]
        have hp13 : (List.map encS (s2) : List (List AV)) ++ [[AV.str (x12.f_Name)]] = List.map encS (s2 ++ ([x12.f_Name] : List (List UInt8))) := by first | rfl | (rw [List.map_append]; rfl) | (rw [List.map_append]; done) | (simp only [List.map_append, List.map_cons, List.map_nil, List.nil_append, encS] <;> rfl)
        have hl14 : List.length (List.map encS (s2) : List (List AV)) + List.length ([[AV.str (x12.f_Name)]] : List (List AV)) = List.length (s2 ++ ([x12.f_Name] : List (List UInt8))) := by simp only [List.length_map, List.length_append] <;> rfl
        have hl14_b : List.length s2 + List.length ([[AV.str (x12.f_Name)]] : List (List AV)) = List.length (s2 ++ ([x12.f_Name] : List (List UInt8))) := by simp only [List.length_map, List.length_append] <;> rfl
        have hl14_c : List.length s2 + List.length ([x12.f_Name] : List (List UInt8)) = List.length (s2 ++ ([x12.f_Name] : List (List UInt8))) := by simp only [List.length_map, List.length_append] <;> rfl
        first | simp only [hp13, hl14] | (simp only [List.length_map, take_map_len]; simp only [hp13, hl14_b, hl14_c])
        try simp only [ls]
        conv => lhs; whnf
        exact cq (hcont8 (IntKind.i64.wrap (s1 + 1), (s2 ++ ([x12.f_Name] : List (List UInt8)))) (fun _ => 0) hm)
      · simp only [hc11, ls]
        conv => lhs; whnf
        have hq := Option.some.inj hm; clear hm; subst hq
        exact kq (hr9 (fun _ => 0))
    · cases o10 with
      | ret v =>
        have hq := Option.some.inj hm; clear hm; subst hq
        rfl
      | out t =>
        obtain ⟨x17, rfl⟩ : ∃ x, x = t := ⟨_, rfl⟩
        intro a16
        dsimp only at hm
        conv => lhs; whnf
        have hq := Option.some.inj hm; clear hm; subst hq
        try simp only [ls]
        exact fq (y := some (AV.sl 1 (List.take (List.length (x17)) (List.map encS (x17))), []))
end Go.Proofs.Ytmnnkeejgkhgpaa
end

section
namespace Go.Proofs.Ytmnnkeejgkhgpaa
set_option linter.unusedVariables false
set_option linter.unusedSimpArgs false
set_option maxRecDepth 100000

def OK_ref06_made (n : Nat) : Prop := ∀ (v0_l : (List S_api_Node)) (v2_i : Int) (o0_a : (List OpS)) (r : R_ref06_made), m_ref06_made n v0_l v2_i o0_a = some r → callN Try.prog HH XT n 31 [AV.sl 5 (List.map c_api_Node (v0_l)), AV.own 0 0 (List.length (o0_a)), AV.int .i64 (v2_i)] [Ob.arr 3 (List.map encOp (o0_a))] = some ((match (r : R_ref06_made) with | .c0 y => AV.sl 3 (List.map encOp (y)) | .c1 y => AV.own 0 ((y).1) ((y).2)), (match (r : R_ref06_made) with | .c0 y => [Ob.arr 3 (List.map encOp (o0_a))] | .c1 y => [Ob.arr 3 (List.map encOp (o0_a))]))
set_option maxHeartbeats 4000000 in
theorem st_ref06_made (n : Nat) (ih_ref06_made : OK_ref06_made n) : OK_ref06_made (n + 1) := by
  intro v0_l v2_i o0_a r hm
  rw [m_ref06_made] at hm
  refine callN_eq' Try.func31 (by rfl) rfl rfl (Nat.le_of_ble_eq_true rfl) ?_
  intro call hc
  conv => lhs; whnf
  refine bind_some2 hm ?_; clear hm; intro x1 hx1 hm
  refine bif_pos (by first | exact idx_in hx1 | exact idx_in' hx1) ?_
  simp only [idx_nth (f := c_api_Node) hx1, ls]
  conv => lhs; whnf
  refine bif_or2 hm ?_ ?_ <;> clear hm <;> intro hc2 hm
  · simp only [hc2, ls]
    conv => lhs; whnf
    refine chk_some2 hm ?_; clear hm; intro hc3 hm
    try simp only [ls]
    refine bif_pos hc3 ?_
    simp only [Nat.zero_add, Nat.sub_zero, ls]
    conv => lhs; whnf
    have hq := Option.some.inj hm; clear hm; subst hq
    try simp only [ls]
    exact fq (y := some (AV.own 0 ((v2_i).toNat) ((IntKind.i64.wrap (v2_i + 1)).toNat - (v2_i).toNat), [Ob.arr 3 (List.map encOp (o0_a))]))
  · simp only [hc2, ls]
    conv => lhs; whnf
    refine bind_some2 hm ?_; clear hm; intro y4 hy4 hm
    cases y4 with
    | c0 y6 =>
      dsimp only at hm
      have hk5 : call false 31 [AV.sl 5 (List.map c_api_Node (v0_l)), AV.own 0 0 (List.length (o0_a)), AV.int .i64 (IntKind.i64.wrap (v2_i + 1))] [Ob.arr 3 (List.map encOp (o0_a))] = some (AV.sl 3 (List.map encOp (y6)), [Ob.arr 3 (List.map encOp (o0_a))]) := (hc _ _ _).trans (ih_ref06_made v0_l (IntKind.i64.wrap (v2_i + 1)) o0_a (.c0 y6) hy4)
      try simp only [List.drop_zero, ls]
      first | simp only [hk5] | rewrite [hk5]
      try simp only [ls]
      conv => lhs; whnf
      refine chk_some2 hm ?_; clear hm; intro hc8 hm
      refine bif_pos (app_nil hc8 (by simp only [List.length_map, take_map_len]) (by kernel_rfl)) ?_
      try simp only [ls]
      conv => lhs; whnf
      refine bif_or2 hm ?_ ?_ <;> clear hm <;> intro hc9 hm
      · simp only [hc9, ls]
        conv => lhs; whnf
        refine bind_some2 hm ?_; clear hm; intro y10 hy10 hm
        have hk11 : call false 46 [AV.sl 5 (List.map c_api_Node (v0_l)), AV.int .i64 (IntKind.i64.wrap (v2_i + 1))] [] = some (AV.int .i64 (y10), []) := (hc _ _ _).trans (ok_ref02_End n v0_l (IntKind.i64.wrap (v2_i + 1)) y10 hy10)
        try simp only [List.drop_zero, ls]
        first | simp only [hk11] | rewrite [hk11]
        try simp only [ls]
        conv => lhs; whnf
        refine bind_some2 hm ?_; clear hm; intro y12 hy12 hm
        cases y12 with
        | c0 y14 =>
          dsimp only at hm
          have hk13 : call false 31 [AV.sl 5 (List.map c_api_Node (v0_l)), AV.own 0 0 (List.length (o0_a)), AV.int .i64 (y10)] [Ob.arr 3 (List.map encOp (o0_a))] = some (AV.sl 3 (List.map encOp (y14)), [Ob.arr 3 (List.map encOp (o0_a))]) := (hc _ _ _).trans (ih_ref06_made v0_l y10 o0_a (.c0 y14) hy12)
          try simp only [List.drop_zero, ls]
          first | simp only [hk13] | rewrite [hk13]
          try simp only [ls]
          conv => lhs; whnf
          refine chk_some2 hm ?_; clear hm; intro hc18 hm
          refine bif_pos (app_row hc18 (by first | rfl | simp only [List.length_map]) (by first | rfl | simp only [List.length_map]) (by first | rfl | simp only [List.length_map, take_map_len]) (by kernel_rfl)) ?_
          try simp only [lt]
          have hp16 : (List.map encOp (y6) : List (List AV)) ++ List.map encOp (y14) = List.map encOp (y6 ++ y14) := by first | rfl | (rw [List.map_append]; rfl) | (rw [List.map_append]; done) | (simp only [List.map_append, List.map_cons, List.map_nil, List.nil_append, encOp] <;> rfl)
          have hl17 : List.length (List.map encOp (y6) : List (List AV)) + List.length (List.map encOp (y14) : List (List AV)) = List.length (y6 ++ y14) := by simp only [List.length_map, List.length_append] <;> rfl
          have hl17_b : List.length y6 + List.length (List.map encOp (y14) : List (List AV)) = List.length (y6 ++ y14) := by simp only [List.length_map, List.length_append] <;> rfl
          have hl17_c : List.length y6 + List.length y14 = List.length (y6 ++ y14) := by simp only [List.length_map, List.length_append] <;> rfl
          first | simp only [hp16, hl17] | (simp only [List.length_map, take_map_len]; simp only [hp16, hl17_b, hl17_c])
          try simp only [ls]
          conv => lhs; whnf
          refine chk_some2 hm ?_; clear hm; intro hc21 hm
          refine bif_pos (app_row hc21 (by first | rfl | simp only [List.length_map]) (by first | rfl | simp only [List.length_map]) (by first | rfl | simp only [List.length_map, take_map_len]) (by kernel_rfl)) ?_
          try simp only [lt]
          have hp19 : (List.map encOp (y6 ++ y14) : List (List AV)) ++ [[AV.int .i64 (x1.f_Op), AV.int .i64 (0), AV.int .i64 (0)]] = List.map encOp ((y6 ++ y14) ++ ([(⟨x1.f_Op, 0, 0⟩ : OpS)] : List OpS)) := by first | rfl | (rw [List.map_append]; rfl) | (rw [List.map_append]; done) | (simp only [List.map_append, List.map_cons, List.map_nil, List.nil_append, encOp] <;> rfl)
          have hl20 : List.length (List.map encOp (y6 ++ y14) : List (List AV)) + List.length ([[AV.int .i64 (x1.f_Op), AV.int .i64 (0), AV.int .i64 (0)]] : List (List AV)) = List.length ((y6 ++ y14) ++ ([(⟨x1.f_Op, 0, 0⟩ : OpS)] : List OpS)) := by simp only [List.length_map, List.length_append] <;> rfl
          have hl20_b : List.length (y6 ++ y14) + List.length ([[AV.int .i64 (x1.f_Op), AV.int .i64 (0), AV.int .i64 (0)]] : List (List AV)) = List.length ((y6 ++ y14) ++ ([(⟨x1.f_Op, 0, 0⟩ : OpS)] : List OpS)) := by simp only [List.length_map, List.length_append] <;> rfl
          have hl20_c : List.length (y6 ++ y14) + List.length ([(⟨x1.f_Op, 0, 0⟩ : OpS)] : List OpS) = List.length ((y6 ++ y14) ++ ([(⟨x1.f_Op, 0, 0⟩ : OpS)] : List OpS)) := by simp only [List.length_map, List.length_append] <;> rfl
          first | simp only [hp19, hl20] | (simp only [List.length_map, take_map_len]; simp only [hp19, hl20_b, hl20_c])
          try simp only [ls]
          conv => lhs; whnf
          have hq := Option.some.inj hm; clear hm; subst hq
          try simp only [ls]
          exact fq (y := some (AV.sl 3 (List.take (List.length (((y6 ++ y14) ++ ([(⟨x1.f_Op, 0, 0⟩ : OpS)] : List OpS)))) (List.map encOp ((y6 ++ y14) ++ ([(⟨x1.f_Op, 0, 0⟩ : OpS)] : List OpS)))), [Ob.arr 3 (List.map encOp (o0_a))]))
        | c1 y15 =>
          dsimp only at hm
          have hk13 : call false 31 [AV.sl 5 (List.map c_api_Node (v0_l)), AV.own 0 0 (List.length (o0_a)), AV.int .i64 (y10)] [Ob.arr 3 (List.map encOp (o0_a))] = some (AV.own 0 ((y15).1) ((y15).2), [Ob.arr 3 (List.map encOp (o0_a))]) := (hc _ _ _).trans (ih_ref06_made v0_l y10 o0_a (.c1 y15) hy12)
          try simp only [List.drop_zero, ls]
          first | simp only [hk13] | rewrite [hk13]
          try simp only [ls]
          conv => lhs; whnf
          have hy22 : List.take ((y15).2) (List.drop ((y15).1) (List.map encOp o0_a)) = List.map encOp (List.take ((y15).2) (List.drop ((y15).1) o0_a)) := by rw [List.map_take, List.map_drop]
          simp only [hy22]
          conv => lhs; whnf
          refine chk_some2 hm ?_; clear hm; intro hc25 hm
          refine bif_pos (app_row hc25 (by first | rfl | simp only [List.length_map]) (by first | rfl | simp only [List.length_map]) (by first | rfl | simp only [List.length_map, take_map_len]) (by kernel_rfl)) ?_
          try simp only [lt]
          have hp23 : (List.map encOp (y6) : List (List AV)) ++ List.map encOp ((List.take ((y15).2) (List.drop ((y15).1) o0_a))) = List.map encOp (y6 ++ (List.take ((y15).2) (List.drop ((y15).1) o0_a))) := by first | rfl | (rw [List.map_append]; rfl) | (rw [List.map_append]; done) | (simp only [List.map_append, List.map_cons, List.map_nil, List.nil_append, encOp] <;> rfl)
          have hl24 : List.length (List.map encOp (y6) : List (List AV)) + List.length (List.map encOp ((List.take ((y15).2) (List.drop ((y15).1) o0_a))) : List (List AV)) = List.length (y6 ++ (List.take ((y15).2) (List.drop ((y15).1) o0_a))) := by simp only [List.length_map, List.length_append] <;> rfl
          have hl24_b : List.length y6 + List.length (List.map encOp ((List.take ((y15).2) (List.drop ((y15).1) o0_a))) : List (List AV)) = List.length (y6 ++ (List.take ((y15).2) (List.drop ((y15).1) o0_a))) := by simp only [List.length_map, List.length_append] <;> rfl
          have hl24_c : List.length y6 + List.length (List.take ((y15).2) (List.drop ((y15).1) o0_a)) = List.length (y6 ++ (List.take ((y15).2) (List.drop ((y15).1) o0_a))) := by simp only [List.length_map, List.length_append] <;> rfl
          first | simp only [hp23, hl24] | (simp only [List.length_map, take_map_len]; simp only [hp23, hl24_b, hl24_c])
          try simp only [ls]
          conv => lhs; whnf
          refine chk_some2 hm ?_; clear hm; intro hc28 hm
          refine bif_pos (app_row hc28 (by first | rfl | simp only [List.length_map]) (by first | rfl | simp only [List.length_map]) (by first | rfl | simp only [List.length_map, take_map_len]) (by kernel_rfl)) ?_
          try simp only [lt]
          have hp26 : (List.map encOp (y6 ++ (List.take ((y15).2) (List.drop ((y15).1) o0_a))) : List (List AV)) ++ [[AV.int .i64 (x1.f_Op), AV.int .i64 (0), AV.int .i64 (0)]] = List.map encOp ((y6 ++ (List.take ((y15).2) (List.drop ((y15).1) o0_a))) ++ ([(⟨x1.f_Op, 0, 0⟩ : OpS)] : List OpS)) := by first | rfl | (rw [List.map_append]; rfl) | (rw [List.map_append]; done) | (simp only [List.map_append, List.map_cons, List.map_nil, List.nil_append, encOp] <;> rfl)
          have hl27 : List.length (List.map encOp (y6 ++ (List.take ((y15).2) (List.drop ((y15).1) o0_a))) : List (List AV)) + List.length ([[AV.int .i64 (x1.f_Op), AV.int .i64 (0), AV.int .i64 (0)]] : List (List AV)) = List.length ((y6 ++ (List.take ((y15).2) (List.drop ((y15).1) o0_a))) ++ ([(⟨x1.f_Op, 0, 0⟩ : OpS)] : List OpS)) := by simp only [List.length_map, List.length_append] <;> rfl
          have hl27_b : List.length (y6 ++ (List.take ((y15).2) (List.drop ((y15).1) o0_a))) + List.length ([[AV.int .i64 (x1.f_Op), AV.int .i64 (0), AV.int .i64 (0)]] : List (List AV)) = List.length ((y6 ++ (List.take ((y15).2) (List.drop ((y15).1) o0_a))) ++ ([(⟨x1.f_Op, 0, 0⟩ : OpS)] : List OpS)) := by simp only [List.length_map, List.length_append] <;> rfl
          have hl27_c : List.length (y6 ++ (List.take ((y15).2) (List.drop ((y15).1) o0_a))) + List.length ([(⟨x1.f_Op, 0, 0⟩ : OpS)] : List OpS) = List.length ((y6 ++ (List.take ((y15).2) (List.drop ((y15).1) o0_a))) ++ ([(⟨x1.f_Op, 0, 0⟩ : OpS)] : List OpS)) := by simp only [List.length_map, List.length_append] <;> rfl
          first | simp only [hp26, hl27] | (simp only [List.length_map, take_map_len]; simp only [hp26, hl27_b, hl27_c])
          try simp only [ls]
          conv => lhs; whnf
          have hq := Option.some.inj hm; clear hm; subst hq
          try simp only [ls]
          exact fq (y := some (AV.sl 3 (List.take (List.length (((y6 ++ (List.take ((y15).2) (List.drop ((y15).1) o0_a))) ++ ([(⟨x1.f_Op, 0, 0⟩ : OpS)] : List OpS)))) (List.map encOp ((y6 ++ (List.take ((y15).2) (List.drop ((y15).1) o0_a))) ++ ([(⟨x1.f_Op, 0, 0⟩ : OpS)] : List OpS)))), [Ob.arr 3 (List.map encOp (o0_a))]))
      · simp only [hc9, ls]
        conv => lhs; whnf
        refine chk_some2 hm ?_; clear hm; intro hc31 hm
        refine bif_pos (app_row hc31 (by first | rfl | simp only [List.length_map]) (by first | rfl | simp only [List.length_map]) (by first | rfl | simp only [List.length_map, take_map_len]) (by kernel_rfl)) ?_
        try simp only [lt]
        have hp29 : (List.map encOp (y6) : List (List AV)) ++ [[AV.int .i64 (x1.f_Op), AV.int .i64 (0), AV.int .i64 (0)]] = List.map encOp (y6 ++ ([(⟨x1.f_Op, 0, 0⟩ : OpS)] : List OpS)) := by first | rfl | (rw [List.map_append]; rfl) | (rw [List.map_append]; done) | (simp only [List.map_append, List.map_cons, List.map_nil, List.nil_append, encOp] <;> rfl)
        have hl30 : List.length (List.map encOp (y6) : List (List AV)) + List.length ([[AV.int .i64 (x1.f_Op), AV.int .i64 (0), AV.int .i64 (0)]] : List (List AV)) = List.length (y6 ++ ([(⟨x1.f_Op, 0, 0⟩ : OpS)] : List OpS)) := by simp only [List.length_map, List.length_append] <;> rfl
        have hl30_b : List.length y6 + List.length ([[AV.int .i64 (x1.f_Op), AV.int .i64 (0), AV.int .i64 (0)]] : List (List AV)) = List.length (y6 ++ ([(⟨x1.f_Op, 0, 0⟩ : OpS)] : List OpS)) := by simp only [List.length_map, List.length_append] <;> rfl
        have hl30_c : List.length y6 + List.length ([(⟨x1.f_Op, 0, 0⟩ : OpS)] : List OpS) = List.length (y6 ++ ([(⟨x1.f_Op, 0, 0⟩ : OpS)] : List OpS)) := by simp only [List.length_map, List.length_append] <;> rfl
        first | simp only [hp29, hl30] | (simp only [List.length_map, take_map_len]; simp only [hp29, hl30_b, hl30_c])
        try simp only [ls]
        conv => lhs; whnf
        have hq := Option.some.inj hm; clear hm; subst hq
        try simp only [ls]
        exact fq (y := some (AV.sl 3 (List.take (List.length ((y6 ++ ([(⟨x1.f_Op, 0, 0⟩ : OpS)] : List OpS)))) (List.map encOp (y6 ++ ([(⟨x1.f_Op, 0, 0⟩ : OpS)] : List OpS)))), [Ob.arr 3 (List.map encOp (o0_a))]))
    | c1 y7 =>
      dsimp only at hm
      have hk5 : call false 31 [AV.sl 5 (List.map c_api_Node (v0_l)), AV.own 0 0 (List.length (o0_a)), AV.int .i64 (IntKind.i64.wrap (v2_i + 1))] [Ob.arr 3 (List.map encOp (o0_a))] = some (AV.own 0 ((y7).1) ((y7).2), [Ob.arr 3 (List.map encOp (o0_a))]) := (hc _ _ _).trans (ih_ref06_made v0_l (IntKind.i64.wrap (v2_i + 1)) o0_a (.c1 y7) hy4)
      try simp only [List.drop_zero, ls]
      first | simp only [hk5] | rewrite [hk5]
      try simp only [ls]
      conv => lhs; whnf
      have hy32 : List.take ((y7).2) (List.drop ((y7).1) (List.map encOp o0_a)) = List.map encOp (List.take ((y7).2) (List.drop ((y7).1) o0_a)) := by rw [List.map_take, List.map_drop]
      simp only [hy32]
      conv => lhs; whnf
      refine chk_some2 hm ?_; clear hm; intro hc33 hm
      refine bif_pos (app_nil hc33 (by simp only [List.length_map, take_map_len]) (by kernel_rfl)) ?_
      try simp only [ls]
      conv => lhs; whnf
      refine bif_or2 hm ?_ ?_ <;> clear hm <;> intro hc34 hm
      · simp only [hc34, ls]
        conv => lhs; whnf
        refine bind_some2 hm ?_; clear hm; intro y35 hy35 hm
        have hk36 : call false 46 [AV.sl 5 (List.map c_api_Node (v0_l)), AV.int .i64 (IntKind.i64.wrap (v2_i + 1))] [] = some (AV.int .i64 (y35), []) := (hc _ _ _).trans (ok_ref02_End n v0_l (IntKind.i64.wrap (v2_i + 1)) y35 hy35)
        try simp only [List.drop_zero, ls]
        first | simp only [hk36] | rewrite [hk36]
        try simp only [ls]
        conv => lhs; whnf
        refine bind_some2 hm ?_; clear hm; intro y37 hy37 hm
        cases y37 with
        | c0 y39 =>
          dsimp only at hm
          have hk38 : call false 31 [AV.sl 5 (List.map c_api_Node (v0_l)), AV.own 0 0 (List.length (o0_a)), AV.int .i64 (y35)] [Ob.arr 3 (List.map encOp (o0_a))] = some (AV.sl 3 (List.map encOp (y39)), [Ob.arr 3 (List.map encOp (o0_a))]) := (hc _ _ _).trans (ih_ref06_made v0_l y35 o0_a (.c0 y39) hy37)
          try simp only [List.drop_zero, ls]
          first | simp only [hk38] | rewrite [hk38]
          try simp only [ls]
          conv => lhs; whnf
          refine chk_some2 hm ?_; clear hm; intro hc43 hm
          refine bif_pos (app_row hc43 (by first | rfl | simp only [List.length_map]) (by first | rfl | simp only [List.length_map]) (by first | rfl | simp only [List.length_map, take_map_len]) (by kernel_rfl)) ?_
          try simp only [lt]
          have hp41 : (List.map encOp ((List.take ((y7).2) (List.drop ((y7).1) o0_a))) : List (List AV)) ++ List.map encOp (y39) = List.map encOp ((List.take ((y7).2) (List.drop ((y7).1) o0_a)) ++ y39) := by first | rfl | (rw [List.map_append]; rfl) | (rw [List.map_append]; done) | (simp only [List.map_append, List.map_cons, List.map_nil, List.nil_append, encOp] <;> rfl)
          have hl42 : List.length (List.map encOp ((List.take ((y7).2) (List.drop ((y7).1) o0_a))) : List (List AV)) + List.length (List.map encOp (y39) : List (List AV)) = List.length ((List.take ((y7).2) (List.drop ((y7).1) o0_a)) ++ y39) := by simp only [List.length_map, List.length_append] <;> rfl
          have hl42_b : List.length (List.take ((y7).2) (List.drop ((y7).1) o0_a)) + List.length (List.map encOp (y39) : List (List AV)) = List.length ((List.take ((y7).2) (List.drop ((y7).1) o0_a)) ++ y39) := by simp only [List.length_map, List.length_append] <;> rfl
          have hl42_c : List.length (List.take ((y7).2) (List.drop ((y7).1) o0_a)) + List.length y39 = List.length ((List.take ((y7).2) (List.drop ((y7).1) o0_a)) ++ y39) := by simp only [List.length_map, List.length_append] <;> rfl
          first | simp only [hp41, hl42] | (simp only [List.length_map, take_map_len]; simp only [hp41, hl42_b, hl42_c])
          try simp only [ls]
          conv => lhs; whnf
          refine chk_some2 hm ?_; clear hm; intro hc46 hm
          refine bif_pos (app_row hc46 (by first | rfl | simp only [List.length_map]) (by first | rfl | simp only [List.length_map]) (by first | rfl | simp only [List.length_map, take_map_len]) (by kernel_rfl)) ?_
          try simp only [lt]
          have hp44 : (List.map encOp ((List.take ((y7).2) (List.drop ((y7).1) o0_a)) ++ y39) : List (List AV)) ++ [[AV.int .i64 (x1.f_Op), AV.int .i64 (0), AV.int .i64 (0)]] = List.map encOp (((List.take ((y7).2) (List.drop ((y7).1) o0_a)) ++ y39) ++ ([(⟨x1.f_Op, 0, 0⟩ : OpS)] : List OpS)) := by first | rfl | (rw [List.map_append]; rfl) | (rw [List.map_append]; done) | (simp only [List.map_append, List.map_cons, List.map_nil, List.nil_append, encOp] <;> rfl)
          have hl45 : List.length (List.map encOp ((List.take ((y7).2) (List.drop ((y7).1) o0_a)) ++ y39) : List (List AV)) + List.length ([[AV.int .i64 (x1.f_Op), AV.int .i64 (0), AV.int .i64 (0)]] : List (List AV)) = List.length (((List.take ((y7).2) (List.drop ((y7).1) o0_a)) ++ y39) ++ ([(⟨x1.f_Op, 0, 0⟩ : OpS)] : List OpS)) := by simp only [List.length_map, List.length_append] <;> rfl
          have hl45_b : List.length ((List.take ((y7).2) (List.drop ((y7).1) o0_a)) ++ y39) + List.length ([[AV.int .i64 (x1.f_Op), AV.int .i64 (0), AV.int .i64 (0)]] : List (List AV)) = List.length (((List.take ((y7).2) (List.drop ((y7).1) o0_a)) ++ y39) ++ ([(⟨x1.f_Op, 0, 0⟩ : OpS)] : List OpS)) := by simp only [List.length_map, List.length_append] <;> rfl
          have hl45_c : List.length ((List.take ((y7).2) (List.drop ((y7).1) o0_a)) ++ y39) + List.length ([(⟨x1.f_Op, 0, 0⟩ : OpS)] : List OpS) = List.length (((List.take ((y7).2) (List.drop ((y7).1) o0_a)) ++ y39) ++ ([(⟨x1.f_Op, 0, 0⟩ : OpS)] : List OpS)) := by simp only [List.length_map, List.length_append] <;> rfl
          first | simp only [hp44, hl45] | (simp only [List.length_map, take_map_len]; simp only [hp44, hl45_b, hl45_c])
          try simp only [ls]
          conv => lhs; whnf
          have hq := Option.some.inj hm; clear hm; subst hq
          try simp only [ls]
          exact fq (y := some (AV.sl 3 (List.take (List.length ((((List.take ((y7).2) (List.drop ((y7).1) o0_a)) ++ y39) ++ ([(⟨x1.f_Op, 0, 0⟩ : OpS)] : List OpS)))) (List.map encOp (((List.take ((y7).2) (List.drop ((y7).1) o0_a)) ++ y39) ++ ([(⟨x1.f_Op, 0, 0⟩ : OpS)] : List OpS)))), [Ob.arr 3 (List.map encOp (o0_a))]))
        | c1 y40 =>
          dsimp only at hm
          have hk38 : call false 31 [AV.sl 5 (List.map c_api_Node (v0_l)), AV.own 0 0 (List.length (o0_a)), AV.int .i64 (y35)] [Ob.arr 3 (List.map encOp (o0_a))] = some (AV.own 0 ((y40).1) ((y40).2), [Ob.arr 3 (List.map encOp (o0_a))]) := (hc _ _ _).trans (ih_ref06_made v0_l y35 o0_a (.c1 y40) hy37)
          try simp only [List.drop_zero, ls]
          first | simp only [hk38] | rewrite [hk38]
          try simp only [ls]
          conv => lhs; whnf
          have hy47 : List.take ((y40).2) (List.drop ((y40).1) (List.map encOp o0_a)) = List.map encOp (List.take ((y40).2) (List.drop ((y40).1) o0_a)) := by rw [List.map_take, List.map_drop]
          simp only [hy47]
          conv => lhs; whnf
          refine chk_some2 hm ?_; clear hm; intro hc50 hm
          refine bif_pos (app_row hc50 (by first | rfl | simp only [List.length_map]) (by first | rfl | simp only [List.length_map]) (by first | rfl | simp only [List.length_map, take_map_len]) (by kernel_rfl)) ?_
          try simp only [lt]
          have hp48 : (List.map encOp ((List.take ((y7).2) (List.drop ((y7).1) o0_a))) : List (List AV)) ++ List.map encOp ((List.take ((y40).2) (List.drop ((y40).1) o0_a))) = List.map encOp ((List.take ((y7).2) (List.drop ((y7).1) o0_a)) ++ (List.take ((y40).2) (List.drop ((y40).1) o0_a))) := by first | rfl | (rw [List.map_append]; rfl) | (rw [List.map_append]; done) | (simp only [List.map_append, List.map_cons, List.map_nil, List.nil_append, encOp] <;> rfl)
          have hl49 : List.length (List.map encOp ((List.take ((y7).2) (List.drop ((y7).1) o0_a))) : List (List AV)) + List.length (List.map encOp ((List.take ((y40).2) (List.drop ((y40).1) o0_a))) : List (List AV)) = List.length ((List.take ((y7).2) (List.drop ((y7).1) o0_a)) ++ (List.take ((y40).2) (List.drop ((y40).1) o0_a))) := by simp only [List.length_map, List.length_append] <;> rfl
          have hl49_b : List.length (List.take ((y7).2) (List.drop ((y7).1) o0_a)) + List.length (List.map encOp ((List.take ((y40).2) (List.drop ((y40).1) o0_a))) : List (List AV)) = List.length ((List.take ((y7).2) (List.drop ((y7).1) o0_a)) ++ (List.take ((y40).2) (List.drop ((y40).1) o0_a))) := by simp only [List.length_map, List.length_append] <;> rfl
          have hl49_c : List.length (List.take ((y7).2) (List.drop ((y7).1) o0_a)) + List.length (List.take ((y40).2) (List.drop ((y40).1) o0_a)) = List.length ((List.take ((y7).2) (List.drop ((y7).1) o0_a)) ++ (List.take ((y40).2) (List.drop ((y40).1) o0_a))) := by simp only [List.length_map, List.length_append] <;> rfl
          first | simp only [hp48, hl49] | (simp only [List.length_map, take_map_len]; simp only [hp48, hl49_b, hl49_c])
          try simp only [ls]
          conv => lhs; whnf
          refine chk_some2 hm ?_; clear hm; intro hc53 hm
          refine bif_pos (app_row hc53 (by first | rfl | simp only [List.length_map]) (by first | rfl | simp only [List.length_map]) (by first | rfl | simp only [List.length_map, take_map_len]) (by kernel_rfl)) ?_
          try simp only [lt]
          have hp51 : (List.map encOp ((List.take ((y7).2) (List.drop ((y7).1) o0_a)) ++ (List.take ((y40).2) (List.drop ((y40).1) o0_a))) : List (List AV)) ++ [[AV.int .i64 (x1.f_Op), AV.int .i64 (0), AV.int .i64 (0)]] = List.map encOp (((List.take ((y7).2) (List.drop ((y7).1) o0_a)) ++ (List.take ((y40).2) (List.drop ((y40).1) o0_a))) ++ ([(⟨x1.f_Op, 0, 0⟩ : OpS)] : List OpS)) := by first | rfl | (rw [List.map_append]; rfl) | (rw [List.map_append]; done) | (simp only [List.map_append, List.map_cons, List.map_nil, List.nil_append, encOp] <;> rfl)
          have hl52 : List.length (List.map encOp ((List.take ((y7).2) (List.drop ((y7).1) o0_a)) ++ (List.take ((y40).2) (List.drop ((y40).1) o0_a))) : List (List AV)) + List.length ([[AV.int .i64 (x1.f_Op), AV.int .i64 (0), AV.int .i64 (0)]] : List (List AV)) = List.length (((List.take ((y7).2) (List.drop ((y7).1) o0_a)) ++ (List.take ((y40).2) (List.drop ((y40).1) o0_a))) ++ ([(⟨x1.f_Op, 0, 0⟩ : OpS)] : List OpS)) := by simp only [List.length_map, List.length_append] <;> rfl
          have hl52_b : List.length ((List.take ((y7).2) (List.drop ((y7).1) o0_a)) ++ (List.take ((y40).2) (List.drop ((y40).1) o0_a))) + List.length ([[AV.int .i64 (x1.f_Op), AV.int .i64 (0), AV.int .i64 (0)]] : List (List AV)) = List.length (((List.take ((y7).2) (List.drop ((y7).1) o0_a)) ++ (List.take ((y40).2) (List.drop ((y40).1) o0_a))) ++ ([(⟨x1.f_Op, 0, 0⟩ : OpS)] : List OpS)) := by simp only [List.length_map, List.length_append] <;> rfl
          have hl52_c : List.length ((List.take ((y7).2) (List.drop ((y7).1) o0_a)) ++ (List.take ((y40).2) (List.drop ((y40).1) o0_a))) + List.length ([(⟨x1.f_Op, 0, 0⟩ : OpS)] : List OpS) = List.length (((List.take ((y7).2) (List.drop ((y7).1) o0_a)) ++ (List.take ((y40).2) (List.drop ((y40).1) o0_a))) ++ ([(⟨x1.f_Op, 0, 0⟩ : OpS)] : List OpS)) := by simp only [List.length_map, List.length_append] <;> rfl
          first | simp only [hp51, hl52] | (simp only [List.length_map, take_map_len]; simp only [hp51, hl52_b, hl52_c])
          try simp only [ls]
          conv => lhs; whnf
          have hq := Option.some.inj hm; clear hm; subst hq
          try simp only [ls]
          exact fq (y := some (AV.sl 3 (List.take (List.length ((((List.take ((y7).2) (List.drop ((y7).1) o0_a)) ++ (List.take ((y40).2) (List.drop ((y40).1) o0_a))) ++ ([(⟨x1.f_Op, 0, 0⟩ : OpS)] : List OpS)))) (List.map encOp (((List.take ((y7).2) (List.drop ((y7).1) o0_a)) ++ (List.take ((y40).2) (List.drop ((y40).1) o0_a))) ++ ([(⟨x1.f_Op, 0, 0⟩ : OpS)] : List OpS)))), [Ob.arr 3 (List.map encOp (o0_a))]))
      · simp only [hc34, ls]
        conv => lhs; whnf
        refine chk_some2 hm ?_; clear hm; intro hc56 hm
        refine bif_pos (app_row hc56 (by first | rfl | simp only [List.length_map]) (by first | rfl | simp only [List.length_map]) (by first | rfl | simp only [List.length_map, take_map_len]) (by kernel_rfl)) ?_
        try simp only [lt]
        have hp54 : (List.map encOp ((List.take ((y7).2) (List.drop ((y7).1) o0_a))) : List (List AV)) ++ [[AV.int .i64 (x1.f_Op), AV.int .i64 (0), AV.int .i64 (0)]] = List.map encOp ((List.take ((y7).2) (List.drop ((y7).1) o0_a)) ++ ([(⟨x1.f_Op, 0, 0⟩ : OpS)] : List OpS)) := by first | rfl | (rw [List.map_append]; rfl) | (rw [List.map_append]; done) | (simp only [List.map_append, List.map_cons, List.map_nil, List.nil_append, encOp] <;> rfl)
        have hl55 : List.length (List.map encOp ((List.take ((y7).2) (List.drop ((y7).1) o0_a))) : List (List AV)) + List.length ([[AV.int .i64 (x1.f_Op), AV.int .i64 (0), AV.int .i64 (0)]] : List (List AV)) = List.length ((List.take ((y7).2) (List.drop ((y7).1) o0_a)) ++ ([(⟨x1.f_Op, 0, 0⟩ : OpS)] : List OpS)) := by simp only [List.length_map, List.length_append] <;> rfl
        have hl55_b : List.length (List.take ((y7).2) (List.drop ((y7).1) o0_a)) + List.length ([[AV.int .i64 (x1.f_Op), AV.int .i64 (0), AV.int .i64 (0)]] : List (List AV)) = List.length ((List.take ((y7).2) (List.drop ((y7).1) o0_a)) ++ ([(⟨x1.f_Op, 0, 0⟩ : OpS)] : List OpS)) := by simp only [List.length_map, List.length_append] <;> rfl
        have hl55_c : List.length (List.take ((y7).2) (List.drop ((y7).1) o0_a)) + List.length ([(⟨x1.f_Op, 0, 0⟩ : OpS)] : List OpS) = List.length ((List.take ((y7).2) (List.drop ((y7).1) o0_a)) ++ ([(⟨x1.f_Op, 0, 0⟩ : OpS)] : List OpS)) := by simp only [List.length_map, List.length_append] <;> rfl
        first | simp only [hp54, hl55] | (simp only [List.length_map, take_map_len]; simp only [hp54, hl55_b, hl55_c])
        try simp only [ls]
        conv => lhs; whnf
        have hq := Option.some.inj hm; clear hm; subst hq
        try simp only [ls]
        exact fq (y := some (AV.sl 3 (List.take (List.length (((List.take ((y7).2) (List.drop ((y7).1) o0_a)) ++ ([(⟨x1.f_Op, 0, 0⟩ : OpS)] : List OpS)))) (List.map encOp ((List.take ((y7).2) (List.drop ((y7).1) o0_a)) ++ ([(⟨x1.f_Op, 0, 0⟩ : OpS)] : List OpS)))), [Ob.arr 3 (List.map encOp (o0_a))]))
theorem all_ref06_made (n : Nat) : OK_ref06_made n := by
  induction n with
  | zero => refine ?_ <;> (unfold OK_ref06_made; intros; rename_i hm; exact absurd hm (by intro h; cases h))
  | succ n ih =>
    exact st_ref06_made n ih
theorem ok_ref06_made (n : Nat) : OK_ref06_made n := all_ref06_made n

set_option maxHeartbeats 4000000 in
theorem ok_ref06_Claim (n : Nat) : ∀ (v0_l : (List S_api_Node)) (v1_p : S_api_Prog) (r : ((List OpS) × Bool)), m_ref06_Claim n v0_l v1_p = some r → callN Try.prog HH XT n 14 [AV.sl 5 (List.map c_api_Node (v0_l)), AV.agg [AV.int .i64 (v1_p.f_Mod), AV.sl 3 (List.map c_api_Var (v1_p.f_Locs)), AV.sl 4 (List.map c_api_Thread (v1_p.f_Threads)), AV.sl 3 (List.map c_api_Claim (v1_p.f_Claims))]] [] = some (AV.tup [AV.sl 3 (List.map encOp ((r).1)), AV.bool ((r).2)], []) := by
  cases n with
  | zero => intro v0_l v1_p r hm; exact absurd hm (by intro h; cases h)
  | succ n =>
    intro v0_l v1_p r hm
    rw [m_ref06_Claim] at hm
    refine callN_eq' Try.func14 (by rfl) rfl rfl (Nat.le_of_ble_eq_true rfl) ?_
    intro call hc
    conv => lhs; whnf
    refine bind_some2 hm ?_; clear hm; intro y1 hy1 hm
    have hk2 : call false 29 [AV.sl 5 (List.map c_api_Node (v0_l))] [] = some (AV.bool (y1), []) := (hc _ _ _).trans (ok_ref02_Right n v0_l y1 hy1)
    try simp only [List.drop_zero, ls]
    first | simp only [hk2] | rewrite [hk2]
    try simp only [ls]
    conv => lhs; whnf
    refine bif_or2 hm ?_ ?_ <;> clear hm <;> intro hc3 hm
    · simp only [hc3, ls]
      conv => lhs; whnf
      refine chk_some2 hm ?_; clear hm; intro hc5 hm
      try simp only [ls]
      refine bif_pos (by first | exact make_ok (B := 24) hc5 rfl (by kernel_rfl) | exact make_ok2 (B := 24) hc5 (by kernel_rfl)) ?_
      have hr4 : List.replicate ((((v0_l).length : Nat) : Int)).toNat [AV.int .i64 (0), AV.int .i64 (0), AV.int .i64 (0)] = List.map encOp (List.replicate ((((v0_l).length : Nat) : Int)).toNat (⟨0, 0, 0⟩ : OpS) : List OpS) := by rw [List.map_replicate]; rfl
      simp only [hr4, ls]
      conv => lhs; whnf
      refine bind_some2 hm ?_; clear hm; intro o15 ho15 hm
      refine rounds_sim (σ := (Int × (List OpS))) (τ := (List OpS)) (ν := ((List OpS) × Bool)) 0 (fun (s6, s7) a9 => stOf 97 [(0, AV.sl 5 (List.map c_api_Node (v0_l))), (3, AV.ptr 0 0), (6, AV.own 1 0 (List.length (s7))), (7, AV.int .i64 (s6))]) (fun (s6, s7) a9 => [Ob.var 28 [AV.int .i64 (v1_p.f_Mod), AV.sl 3 (List.map c_api_Var (v1_p.f_Locs)), AV.sl 4 (List.map c_api_Thread (v1_p.f_Threads)), AV.sl 3 (List.map c_api_Claim (v1_p.f_Claims))], Ob.arr 3 (List.map encOp (s7))]) (fun x49 a48 => stOf 97 [(0, AV.sl 5 (List.map c_api_Node (v0_l))), (6, AV.own 1 0 (List.length (x49)))]) (fun x49 a48 => [Ob.var 28 [AV.int .i64 (v1_p.f_Mod), AV.sl 3 (List.map c_api_Var (v1_p.f_Locs)), AV.sl 4 (List.map c_api_Thread (v1_p.f_Threads)), AV.sl 3 (List.map c_api_Claim (v1_p.f_Claims))], Ob.arr 3 (List.map encOp (x49))]) (fun v => (AV.tup [AV.sl 3 (List.map encOp ((v).1)), AV.bool ((v).2)], [])) (fun k s => ref06_Claim_L0 n v0_l v1_p k ((s).1) ((s).2)) (fun s => rfl) o15 ?_ n (0, (List.replicate ((((v0_l).length : Nat) : Int)).toNat (⟨0, 0, 0⟩ : OpS) : List OpS)) (fun _ => 0) _ _ ho15 ?_ (by first | rfl | (simp only [ls, List.map_append, List.map_cons, List.map_nil, List.append_nil, List.length_set, length_copyL] <;> rfl)) (by first | rfl | (simp only [ls, List.map_append, List.map_cons, List.map_nil, List.append_nil, List.length_set, length_copyL] <;> rfl))
      · intro k8 ss a9 K10 cont11 hK12 hcont13 hm hr14
        obtain ⟨s6, s7⟩ := ss
        replace hm : ref06_Claim_L0 n v0_l v1_p (k8 + 1) s6 s7 = some o15 := hm
        rw [ref06_Claim_L0] at hm
        conv => lhs; whnf
        refine bif_or2 hm ?_ ?_ <;> clear hm <;> intro hc16 hm
        · simp only [hc16, ls]
          conv => lhs; whnf
          refine bind_some2 hm ?_; clear hm; intro x17 hx17 hm
          refine bif_pos (by first | exact idx_in hx17 | exact idx_in' hx17) ?_
          simp only [idx_nth (f := c_api_Node) hx17, ls]
          conv => lhs; whnf
          refine bif_or2 hm ?_ ?_ <;> clear hm <;> intro hc18 hm
          · simp only [hc18, ls]
            conv => lhs; whnf
            refine bind_some2 hm ?_; clear hm; intro x19 hx19 hm
            refine bif_pos (by first | exact idx_in hx19 | exact idx_in' hx19) ?_
            simp only [idx_nth (f := c_api_Node) hx19, ls]
            conv => lhs; whnf
            refine bind_some2 hm ?_; clear hm; intro x20 hx20 hm
            try simp only [ls]
            refine bif_pos (by first | exact idx_in hx20 | exact idx_in' hx20 | exact own_in hx20 | exact own_in' hx20 | (have q := idx_in hx20; simp only [List.length_set] at q; exact q) | (have q := own_in' hx20; simp only [List.length_set, Nat.zero_add] at q ⊢; exact q)) ?_
            conv => lhs; whnf
            try simp only [Nat.zero_add, idx_nth (f := encOp) hx20, dec_self, ls]
            conv => lhs; whnf
            have hs21 : setNth (List.map encOp s7) (s6).toNat [AV.int .i64 (1), AV.int .i64 (x19.f_N), AV.int .i64 (0)] = List.map encOp (List.set s7 (s6).toNat (⟨1, x19.f_N, 0⟩ : OpS)) := by rw [setNth_eq, List.map_set]; rfl
            have hs21_u : setNth (List.map encOp s7) (s6).toNat (updL (encOp x20) 0 [AV.int .i64 (1), AV.int .i64 (x19.f_N), AV.int .i64 (0)]) = List.map encOp (List.set s7 (s6).toNat (⟨1, x19.f_N, 0⟩ : OpS)) := by rw [setNth_eq, List.map_set]; rfl
            try simp only [Nat.zero_add, idx_nth (f := encOp) hx20]
            conv => lhs; whnf
            try simp only [hs21, hs21_u]
            conv => lhs; whnf
            exact cq (hcont13 (IntKind.i64.wrap (s6 + 1), (List.set s7 (s6).toNat (⟨1, x19.f_N, 0⟩ : OpS))) (fun _ => 0) hm)
          · simp only [hc18, ls]
            conv => lhs; whnf
            refine bif_or2 hm ?_ ?_ <;> clear hm <;> intro hc22 hm
            · simp only [hc22, ls]
              conv => lhs; whnf
              have hq := Option.some.inj hm; clear hm; subst hq
              refine (hK12 _ _).trans ?_
              refine Eq.trans ?_ (Eq.symm (show _ = some _ from hr14))
              conv => lhs; whnf
              try simp only [ls]
              exact fq (y := some (AV.tup [AV.sl 3 [], AV.bool (false)], []))
            · simp only [hc22, ls]
              conv => lhs; whnf
              refine bif_or2 hm ?_ ?_ <;> clear hm <;> intro hc23 hm
              · simp only [hc23, ls]
                conv => lhs; whnf
                refine bind_some2 hm ?_; clear hm; intro y24 hy24 hm
                have hk25 : call false 34 [AV.agg [AV.int .i64 (v1_p.f_Mod), AV.sl 3 (List.map c_api_Var (v1_p.f_Locs)), AV.sl 4 (List.map c_api_Thread (v1_p.f_Threads)), AV.sl 3 (List.map c_api_Claim (v1_p.f_Claims))]] [] = some (AV.sl 1 (List.map encS (y24)), []) := (hc _ _ _).trans (ok_ref05_Locs n v1_p y24 hy24)
                try simp only [List.drop_zero, ls]
                first | simp only [hk25] | rewrite [hk25]
                try simp only [ls]
                conv => lhs; whnf
                refine bind_some2 hm ?_; clear hm; intro x26 hx26 hm
                refine bif_pos (by first | exact idx_in hx26 | exact idx_in' hx26) ?_
                simp only [idx_nth (f := c_api_Node) hx26, ls]
                conv => lhs; whnf
                refine bind_some2 hm ?_; clear hm; intro y27 hy27 hm
                have hk28 : call false 30 [AV.sl 1 (List.map encS (y24)), AV.str (x26.f_Name)] [] = some (AV.int .i64 (y27), []) := (hc _ _ _).trans (ok_ref05_Index n y24 x26.f_Name y27 hy27)
                try simp only [List.drop_zero, ls]
                first | simp only [hk28] | rewrite [hk28]
                try simp only [ls]
                conv => lhs; whnf
                refine bind_some2 hm ?_; clear hm; intro x29 hx29 hm
                try simp only [ls]
                refine bif_pos (by first | exact idx_in hx29 | exact idx_in' hx29 | exact own_in hx29 | exact own_in' hx29 | (have q := idx_in hx29; simp only [List.length_set] at q; exact q) | (have q := own_in' hx29; simp only [List.length_set, Nat.zero_add] at q ⊢; exact q)) ?_
                conv => lhs; whnf
                try simp only [Nat.zero_add, idx_nth (f := encOp) hx29, dec_self, ls]
                conv => lhs; whnf
                have hs30 : setNth (List.map encOp s7) (s6).toNat [AV.int .i64 (3), AV.int .i64 (y27), AV.int .i64 (0)] = List.map encOp (List.set s7 (s6).toNat (⟨3, y27, 0⟩ : OpS)) := by rw [setNth_eq, List.map_set]; rfl
                have hs30_u : setNth (List.map encOp s7) (s6).toNat (updL (encOp x29) 0 [AV.int .i64 (3), AV.int .i64 (y27), AV.int .i64 (0)]) = List.map encOp (List.set s7 (s6).toNat (⟨3, y27, 0⟩ : OpS)) := by rw [setNth_eq, List.map_set]; rfl
                try simp only [Nat.zero_add, idx_nth (f := encOp) hx29]
                conv => lhs; whnf
                try simp only [hs30, hs30_u]
                conv => lhs; whnf
                refine bind_some2 hm ?_; clear hm; intro x31 hx31 hm
                try simp only [ls]
                refine bif_pos (by first | exact idx_in hx31 | exact idx_in' hx31 | exact own_in hx31 | exact own_in' hx31 | (have q := idx_in hx31; simp only [List.length_set] at q; exact q) | (have q := own_in' hx31; simp only [List.length_set, Nat.zero_add] at q ⊢; exact q)) ?_
                conv => lhs; whnf
                try simp only [Nat.zero_add, idx_nth (f := encOp) hx31, dec_self, ls]
                conv => lhs; whnf
                refine bif_or2 hm ?_ ?_ <;> clear hm <;> intro hc32 hm
                · simp only [hc32, ls]
                  conv => lhs; whnf
                  have hq := Option.some.inj hm; clear hm; subst hq
                  refine (hK12 _ _).trans ?_
                  refine Eq.trans ?_ (Eq.symm (show _ = some _ from hr14))
                  conv => lhs; whnf
                  try simp only [ls]
                  exact fq (y := some (AV.tup [AV.sl 3 [], AV.bool (false)], []))
                · simp only [hc32, ls]
                  conv => lhs; whnf
                  exact cq (hcont13 (IntKind.i64.wrap (s6 + 1), (List.set s7 (s6).toNat (⟨3, y27, 0⟩ : OpS))) (fun _ => 0) hm)
              · simp only [hc23, ls]
                conv => lhs; whnf
                refine bif_or2 hm ?_ ?_ <;> clear hm <;> intro hc33 hm
                · simp only [hc33, ls]
                  conv => lhs; whnf
                  refine bind_some2 hm ?_; clear hm; intro y34 hy34 hm
                  have hk35 : call false 35 [AV.agg [AV.int .i64 (v1_p.f_Mod), AV.sl 3 (List.map c_api_Var (v1_p.f_Locs)), AV.sl 4 (List.map c_api_Thread (v1_p.f_Threads)), AV.sl 3 (List.map c_api_Claim (v1_p.f_Claims))]] [] = some (AV.sl 1 (List.map encS (y34)), []) := (hc _ _ _).trans (ok_ref05_Threads n v1_p y34 hy34)
                  try simp only [List.drop_zero, ls]
                  first | simp only [hk35] | rewrite [hk35]
                  try simp only [ls]
                  conv => lhs; whnf
                  refine bind_some2 hm ?_; clear hm; intro x36 hx36 hm
                  refine bif_pos (by first | exact idx_in hx36 | exact idx_in' hx36) ?_
                  simp only [idx_nth (f := c_api_Node) hx36, ls]
                  conv => lhs; whnf
                  refine bind_some2 hm ?_; clear hm; intro y37 hy37 hm
                  have hk38 : call false 30 [AV.sl 1 (List.map encS (y34)), AV.str (x36.f_In)] [] = some (AV.int .i64 (y37), []) := (hc _ _ _).trans (ok_ref05_Index n y34 x36.f_In y37 hy37)
                  try simp only [List.drop_zero, ls]
                  first | simp only [hk38] | rewrite [hk38]
                  try simp only [ls]
                  conv => lhs; whnf
                  refine bif_or2 hm ?_ ?_ <;> clear hm <;> intro hc39 hm
                  · simp only [hc39, ls]
                    conv => lhs; whnf
                    have hq := Option.some.inj hm; clear hm; subst hq
                    refine (hK12 _ _).trans ?_
                    refine Eq.trans ?_ (Eq.symm (show _ = some _ from hr14))
                    conv => lhs; whnf
                    try simp only [ls]
                    exact fq (y := some (AV.tup [AV.sl 3 [], AV.bool (false)], []))
                  · simp only [hc39, ls]
                    conv => lhs; whnf
                    refine bind_some2 hm ?_; clear hm; intro x40 hx40 hm
                    refine bif_pos (by first | exact idx_in hx40 | exact idx_in' hx40) ?_
                    simp only [idx_nth (f := c_api_Thread) hx40, ls]
                    conv => lhs; whnf
                    refine bind_some2 hm ?_; clear hm; intro x41 hx41 hm
                    refine bif_pos (by first | exact idx_in hx41 | exact idx_in' hx41) ?_
                    simp only [idx_nth (f := c_api_Node) hx41, ls]
                    conv => lhs; whnf
                    refine bind_some2 hm ?_; clear hm; intro y42 hy42 hm
                    have hk43 : call false 30 [AV.sl 1 (List.map encS (x40.f_Regs)), AV.str (x41.f_Name)] [] = some (AV.int .i64 (y42), []) := (hc _ _ _).trans (ok_ref05_Index n x40.f_Regs x41.f_Name y42 hy42)
                    try simp only [List.drop_zero, ls]
                    first | simp only [hk43] | rewrite [hk43]
                    try simp only [ls]
                    conv => lhs; whnf
                    refine bind_some2 hm ?_; clear hm; intro x44 hx44 hm
                    try simp only [ls]
                    refine bif_pos (by first | exact idx_in hx44 | exact idx_in' hx44 | exact own_in hx44 | exact own_in' hx44 | (have q := idx_in hx44; simp only [List.length_set] at q; exact q) | (have q := own_in' hx44; simp only [List.length_set, Nat.zero_add] at q ⊢; exact q)) ?_
                    conv => lhs; whnf
                    try simp only [Nat.zero_add, idx_nth (f := encOp) hx44, dec_self, ls]
                    conv => lhs; whnf
                    have hs45 : setNth (List.map encOp s7) (s6).toNat [AV.int .i64 (4), AV.int .i64 (y42), AV.int .i64 (y37)] = List.map encOp (List.set s7 (s6).toNat (⟨4, y42, y37⟩ : OpS)) := by rw [setNth_eq, List.map_set]; rfl
                    have hs45_u : setNth (List.map encOp s7) (s6).toNat (updL (encOp x44) 0 [AV.int .i64 (4), AV.int .i64 (y42), AV.int .i64 (y37)]) = List.map encOp (List.set s7 (s6).toNat (⟨4, y42, y37⟩ : OpS)) := by rw [setNth_eq, List.map_set]; rfl
                    try simp only [Nat.zero_add, idx_nth (f := encOp) hx44]
                    conv => lhs; whnf
                    try simp only [hs45, hs45_u]
                    conv => lhs; whnf
                    refine bind_some2 hm ?_; clear hm; intro x46 hx46 hm
                    try simp only [ls]
                    refine bif_pos (by first | exact idx_in hx46 | exact idx_in' hx46 | exact own_in hx46 | exact own_in' hx46 | (have q := idx_in hx46; simp only [List.length_set] at q; exact q) | (have q := own_in' hx46; simp only [List.length_set, Nat.zero_add] at q ⊢; exact q)) ?_
                    conv => lhs; whnf
                    try simp only [Nat.zero_add, idx_nth (f := encOp) hx46, dec_self, ls]
                    conv => lhs; whnf
                    refine bif_or2 hm ?_ ?_ <;> clear hm <;> intro hc47 hm
                    · simp only [hc47, ls]
                      conv => lhs; whnf
                      have hq := Option.some.inj hm; clear hm; subst hq
                      refine (hK12 _ _).trans ?_
                      refine Eq.trans ?_ (Eq.symm (show _ = some _ from hr14))
                      conv => lhs; whnf
                      try simp only [ls]
                      exact fq (y := some (AV.tup [AV.sl 3 [], AV.bool (false)], []))
                    · simp only [hc47, ls]
                      conv => lhs; whnf
                      exact cq (hcont13 (IntKind.i64.wrap (s6 + 1), (List.set s7 (s6).toNat (⟨4, y42, y37⟩ : OpS))) (fun _ => 0) hm)
                · simp only [hc33, ls]
                  conv => lhs; whnf
                  exact cq (hcont13 (IntKind.i64.wrap (s6 + 1), s7) (fun _ => 0) hm)
        · simp only [hc16, ls]
          conv => lhs; whnf
          have hq := Option.some.inj hm; clear hm; subst hq
          exact kq (hr14 (fun _ => 0))
      · cases o15 with
        | ret v =>
          have hq := Option.some.inj hm; clear hm; subst hq
          rfl
        | out t =>
          obtain ⟨x49, rfl⟩ : ∃ x, x = t := ⟨_, rfl⟩
          intro a48
          dsimp only at hm
          conv => lhs; whnf
          refine bind_some2 hm ?_; clear hm; intro y50 hy50 hm
          cases y50 with
          | c0 y52 =>
            dsimp only at hm
            have hk51 : call false 31 [AV.sl 5 (List.map c_api_Node (v0_l)), AV.own 0 0 (List.length (x49)), AV.int .i64 (0)] [Ob.arr 3 (List.map encOp (x49))] = some (AV.sl 3 (List.map encOp (y52)), [Ob.arr 3 (List.map encOp (x49))]) := (hc _ _ _).trans (ok_ref06_made n v0_l 0 x49 (.c0 y52) hy50)
            try simp only [List.drop_zero, ls]
            first | simp only [hk51] | rewrite [hk51]
            try simp only [ls]
            conv => lhs; whnf
            have hq := Option.some.inj hm; clear hm; subst hq
            try simp only [ls]
            exact fq (y := some (AV.tup [AV.sl 3 (List.map encOp (y52)), AV.bool (true)], []))
          | c1 y53 =>
            dsimp only at hm
            have hk51 : call false 31 [AV.sl 5 (List.map c_api_Node (v0_l)), AV.own 0 0 (List.length (x49)), AV.int .i64 (0)] [Ob.arr 3 (List.map encOp (x49))] = some (AV.own 0 ((y53).1) ((y53).2), [Ob.arr 3 (List.map encOp (x49))]) := (hc _ _ _).trans (ok_ref06_made n v0_l 0 x49 (.c1 y53) hy50)
            try simp only [List.drop_zero, ls]
            first | simp only [hk51] | rewrite [hk51]
            try simp only [ls]
            conv => lhs; whnf
            have hq := Option.some.inj hm; clear hm; subst hq
            try simp only [ls]
            exact fq (y := some (AV.tup [AV.sl 3 (List.take ((y53).2) (List.drop ((y53).1) (List.map encOp (x49)))), AV.bool (true)], []))
    · simp only [hc3, ls]
      conv => lhs; whnf
      have hq := Option.some.inj hm; clear hm; subst hq
      try simp only [ls]
      exact fq (y := some (AV.tup [AV.sl 3 [], AV.bool (false)], []))

set_option maxHeartbeats 4000000 in
theorem ok_ref06_Same (n : Nat) : ∀ (v0_a : (List OpS)) (v1_b : (List OpS)) (r : Bool), m_ref06_Same n v0_a v1_b = some r → callN Try.prog HH XT n 15 [AV.sl 3 (List.map encOp (v0_a)), AV.sl 3 (List.map encOp (v1_b))] [] = some (AV.bool (r), []) := by
  cases n with
  | zero => intro v0_a v1_b r hm; exact absurd hm (by intro h; cases h)
  | succ n =>
    intro v0_a v1_b r hm
    rw [m_ref06_Same] at hm
    refine callN_eq' Try.func15 (by rfl) rfl rfl (Nat.le_of_ble_eq_true rfl) ?_
    intro call hc
    conv => lhs; whnf
    refine bif_or2 hm ?_ ?_ <;> clear hm <;> intro hc1 hm
    · simp only [hc1, ls]
      conv => lhs; whnf
      have hq := Option.some.inj hm; clear hm; subst hq
      try simp only [ls]
      exact fq (y := some (AV.bool (false), []))
    · simp only [hc1, ls]
      conv => lhs; whnf
      refine bind_some2 hm ?_; clear hm; intro o10 ho10 hm
      refine rounds_sim (σ := Int) (τ := Unit) (ν := Bool) 0 (fun s2 a4 => stOf 26 [(0, AV.sl 3 (List.map encOp (v0_a))), (1, AV.sl 3 (List.map encOp (v1_b))), (5, AV.int .i64 (s2))]) (fun s2 a4 => []) (fun _ a16 => stOf 26 []) (fun _ a16 => []) (fun v => (AV.bool (v), [])) (fun k s => ref06_Same_L0 n v0_a v1_b k s) (fun s => rfl) o10 ?_ n 0 (fun _ => 0) _ _ ho10 ?_ (by first | rfl | (simp only [ls, List.map_append, List.map_cons, List.map_nil, List.append_nil, List.length_set, length_copyL] <;> rfl)) (by first | rfl | (simp only [ls, List.map_append, List.map_cons, List.map_nil, List.append_nil, List.length_set, length_copyL] <;> rfl))
      · intro k3 ss a4 K5 cont6 hK7 hcont8 hm hr9
        obtain ⟨s2, rfl⟩ : ∃ x, x = ss := ⟨_, rfl⟩
        replace hm : ref06_Same_L0 n v0_a v1_b (k3 + 1) s2 = some o10 := hm
        rw [ref06_Same_L0] at hm
        conv => lhs; whnf
        refine bif_or2 hm ?_ ?_ <;> clear hm <;> intro hc11 hm
        · simp only [hc11, ls]
          conv => lhs; whnf
          refine bind_some2 hm ?_; clear hm; intro x12 hx12 hm
          refine bif_pos (by first | exact idx_in hx12 | exact idx_in' hx12) ?_
          simp only [idx_nth (f := encOp) hx12, ls]
          conv => lhs; whnf
          refine bind_some2 hm ?_; clear hm; intro x13 hx13 hm
          refine bif_pos (by first | exact idx_in hx13 | exact idx_in' hx13) ?_
          simp only [idx_nth (f := encOp) hx13, ls]
          conv => lhs; whnf
          have hf15 : flatT Try.prog 53 = some (fieldsOf Try.prog 53) := by kernel_rfl
          simp only [hf15, List.length_map, take_map_len]
          conv => lhs; whnf
          refine bif_or2 hm ?_ ?_ <;> clear hm <;> intro hc14 hm
          · simp only [hc14, ls]
            conv => lhs; whnf
            exact cq (hcont8 (IntKind.i64.wrap (s2 + 1)) (fun _ => 0) hm)
          · simp only [hc14, ls]
            conv => lhs; whnf
            have hq := Option.some.inj hm; clear hm; subst hq
            refine (hK7 _ _).trans ?_
            refine Eq.trans ?_ (Eq.symm (show _ = some _ from hr9))
            conv => lhs; whnf
            try simp only [ls]
            exact fq (y := some (AV.bool (false), []))
        · simp only [hc11, ls]
          conv => lhs; whnf
          have hq := Option.some.inj hm; clear hm; subst hq
          exact kq (hr9 (fun _ => 0))
      · cases o10 with
        | ret v =>
          have hq := Option.some.inj hm; clear hm; subst hq
          rfl
        | out t =>
          intro a16
          dsimp only at hm
          conv => lhs; whnf
          have hq := Option.some.inj hm; clear hm; subst hq
          try simp only [ls]
          exact fq (y := some (AV.bool (true), []))
end Go.Proofs.Ytmnnkeejgkhgpaa
end

