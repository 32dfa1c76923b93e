/- Models of the program's functions, and that the interpreter computes them. (Printed by gen.py.) Parts of the proofs of the laws. Conditions: none. -/
import Derived.Test.YtaocgmkcjemecaaMC
namespace Go.Proofs.Ytaocgmkcjemecaa
set_option linter.unusedVariables false
set_option linter.unusedSimpArgs false
set_option maxRecDepth 100000

def m_law09_ConfTells : Nat → UnitS → ConfS → (Int × Int × Int) → Option Bool
  | 0, _, _, _ => none
  | n+1, v0_u, v1_c, v2_how => ((m_ref07_Light n v0_u).bind fun y1 => (bif y1 then ((m_ref09_Light n v1_c).bind fun y4 => (bif y4 then ((m_conf_Right n v0_u v1_c ((v2_how).1) ((v2_how).2.1)).bind fun y7 => ((m_ref09_Right n v0_u v1_c ((v2_how).1) ((v2_how).2.1)).bind fun y9 => (bif (y7 == y9) then ((m_conf_Quiet n v1_c).bind fun y12 => ((m_ref09_Quiet n v1_c).bind fun y14 => (bif (y12 == y14) then ((m_conf_Final n v0_u v1_c).bind fun y17 => ((m_ref09_Final n v0_u v1_c).bind fun y19 => (bif (y17 == y19) then ((m_conf_Ended n v0_u v1_c ((v2_how).2.2)).bind fun y22 => ((m_ref09_Ended n v0_u v1_c ((v2_how).2.2)).bind fun y24 => (bif (y22 == y24) then ((m_conf_Ended n v0_u v1_c 0).bind fun y27 => ((m_ref09_Ended n v0_u v1_c 0).bind fun y29 => (bif (y27 == y29) then ((m_law09_known n ).bind fun y32 => (some y32)) else (some false)))) else (some false)))) else (some false)))) else (some false)))) else (some false)))) else ((m_law09_known n ).bind fun y34 => (some y34)))) else ((m_law09_known n ).bind fun y36 => (some y36))))
set_option maxHeartbeats 4000000 in
theorem ok_law09_ConfTells (n : Nat) : ∀ (v0_u : UnitS) (v1_c : ConfS) (v2_how : (Int × Int × Int)) (r : Bool), m_law09_ConfTells n v0_u v1_c v2_how = some r → callN Try.prog HH XT n 9 [AV.agg (cellsU (v0_u)), AV.agg (cellsC (v1_c)), AV.agg [AV.int .i64 ((v2_how).1), AV.int .i64 ((v2_how).2.1), AV.int .i64 ((v2_how).2.2)]] [] = some (AV.bool (r), []) := by
  cases n with
  | zero => intro v0_u v1_c v2_how r hm; exact absurd hm (by intro h; cases h)
  | succ n =>
    intro v0_u v1_c v2_how r hm
    have cf0 : Program.cellsOf Try.prog 3 = 1 := by kernel_rfl
    have cf1 : Program.cellsOf Try.prog 67 = 1 := by kernel_rfl
    have cf2 : Program.cellsOf Try.prog 81 = 7 := by kernel_rfl
    have cf3 : Program.cellsOf Try.prog 134 = 3 := by kernel_rfl
    have cf4 : Program.cellsOf Try.prog 22 = 1 := by kernel_rfl
    have cf5 : Program.cellsOf Try.prog 40 = 1 := by kernel_rfl
    have cf6 : Program.cellsOf Try.prog 42 = 2 := by kernel_rfl
    rw [m_law09_ConfTells] at hm
    refine callN_eq' Try.func9 (by rfl) rfl rfl (Nat.le_of_ble_eq_true rfl) ?_
    intro call hc
    conv => lhs; whnf
    obtain ⟨y1, hy1, hm⟩ := bind_some hm
    have hk2 : call false 17 [AV.agg [AV.int .i64 (v0_u.mod), AV.sl 1 (List.map encI (v0_u.init)), AV.sl 1 (List.map encI (v0_u.regs)), AV.sl 1 (List.map encThr (v0_u.code))]] [] = some (AV.bool (y1), []) := (hc _ _ _).trans (ok_ref07_Light n v0_u y1 hy1)
    simp only [hk2, List.length_map, take_map_len, cf0, cf1, cf2, cf3, cf4, cf5, cf6]
    conv => lhs; whnf
    rcases bif_or hm with ⟨hc3, hm⟩ | ⟨hc3, hm⟩
    · simp only [hc3, List.length_map, take_map_len, cf0, cf1, cf2, cf3, cf4, cf5, cf6]
      conv => lhs; whnf
      obtain ⟨y4, hy4, hm⟩ := bind_some hm
      have hk5 : call false 34 [AV.agg [AV.sl 1 (List.map encI (v1_c.pc)), AV.sl 1 (List.map encRow (v1_c.regs)), AV.sl 1 (List.map encI (v1_c.mem)), AV.sl 1 (List.map encBuf (v1_c.buf))]] [] = some (AV.bool (y4), []) := (hc _ _ _).trans (ok_ref09_Light n v1_c y4 hy4)
      simp only [hk5, List.length_map, take_map_len, cf0, cf1, cf2, cf3, cf4, cf5, cf6]
      conv => lhs; whnf
      rcases bif_or hm with ⟨hc6, hm⟩ | ⟨hc6, hm⟩
      · simp only [hc6, List.length_map, take_map_len, cf0, cf1, cf2, cf3, cf4, cf5, cf6]
        conv => lhs; whnf
        obtain ⟨y7, hy7, hm⟩ := bind_some hm
        have hk8 : call false 35 [AV.agg [AV.int .i64 (v0_u.mod), AV.sl 1 (List.map encI (v0_u.init)), AV.sl 1 (List.map encI (v0_u.regs)), AV.sl 1 (List.map encThr (v0_u.code))], AV.agg [AV.sl 1 (List.map encI (v1_c.pc)), AV.sl 1 (List.map encRow (v1_c.regs)), AV.sl 1 (List.map encI (v1_c.mem)), AV.sl 1 (List.map encBuf (v1_c.buf))], AV.int .i64 ((v2_how).1), AV.int .i64 ((v2_how).2.1)] [] = some (AV.bool (y7), []) := (hc _ _ _).trans (ok_conf_Right n v0_u v1_c ((v2_how).1) ((v2_how).2.1) y7 hy7)
        simp only [hk8, List.length_map, take_map_len, cf0, cf1, cf2, cf3, cf4, cf5, cf6]
        conv => lhs; whnf
        obtain ⟨y9, hy9, hm⟩ := bind_some hm
        have hk10 : call false 36 [AV.agg [AV.int .i64 (v0_u.mod), AV.sl 1 (List.map encI (v0_u.init)), AV.sl 1 (List.map encI (v0_u.regs)), AV.sl 1 (List.map encThr (v0_u.code))], AV.agg [AV.sl 1 (List.map encI (v1_c.pc)), AV.sl 1 (List.map encRow (v1_c.regs)), AV.sl 1 (List.map encI (v1_c.mem)), AV.sl 1 (List.map encBuf (v1_c.buf))], AV.int .i64 ((v2_how).1), AV.int .i64 ((v2_how).2.1)] [] = some (AV.bool (y9), []) := (hc _ _ _).trans (ok_ref09_Right n v0_u v1_c ((v2_how).1) ((v2_how).2.1) y9 hy9)
        simp only [hk10, List.length_map, take_map_len, cf0, cf1, cf2, cf3, cf4, cf5, cf6]
        conv => lhs; whnf
        rcases bif_or hm with ⟨hc11, hm⟩ | ⟨hc11, hm⟩
        · simp only [hc11, List.length_map, take_map_len, cf0, cf1, cf2, cf3, cf4, cf5, cf6]
          conv => lhs; whnf
          obtain ⟨y12, hy12, hm⟩ := bind_some hm
          have hk13 : call false 37 [AV.agg [AV.sl 1 (List.map encI (v1_c.pc)), AV.sl 1 (List.map encRow (v1_c.regs)), AV.sl 1 (List.map encI (v1_c.mem)), AV.sl 1 (List.map encBuf (v1_c.buf))]] [] = some (AV.bool (y12), []) := (hc _ _ _).trans (ok_conf_Quiet n v1_c y12 hy12)
          simp only [hk13, List.length_map, take_map_len, cf0, cf1, cf2, cf3, cf4, cf5, cf6]
          conv => lhs; whnf
          obtain ⟨y14, hy14, hm⟩ := bind_some hm
          have hk15 : call false 38 [AV.agg [AV.sl 1 (List.map encI (v1_c.pc)), AV.sl 1 (List.map encRow (v1_c.regs)), AV.sl 1 (List.map encI (v1_c.mem)), AV.sl 1 (List.map encBuf (v1_c.buf))]] [] = some (AV.bool (y14), []) := (hc _ _ _).trans (ok_ref09_Quiet n v1_c y14 hy14)
          simp only [hk15, List.length_map, take_map_len, cf0, cf1, cf2, cf3, cf4, cf5, cf6]
          conv => lhs; whnf
          rcases bif_or hm with ⟨hc16, hm⟩ | ⟨hc16, hm⟩
          · simp only [hc16, List.length_map, take_map_len, cf0, cf1, cf2, cf3, cf4, cf5, cf6]
            conv => lhs; whnf
            obtain ⟨y17, hy17, hm⟩ := bind_some hm
            have hk18 : call false 39 [AV.agg [AV.int .i64 (v0_u.mod), AV.sl 1 (List.map encI (v0_u.init)), AV.sl 1 (List.map encI (v0_u.regs)), AV.sl 1 (List.map encThr (v0_u.code))], AV.agg [AV.sl 1 (List.map encI (v1_c.pc)), AV.sl 1 (List.map encRow (v1_c.regs)), AV.sl 1 (List.map encI (v1_c.mem)), AV.sl 1 (List.map encBuf (v1_c.buf))]] [] = some (AV.bool (y17), []) := (hc _ _ _).trans (ok_conf_Final n v0_u v1_c y17 hy17)
            simp only [hk18, List.length_map, take_map_len, cf0, cf1, cf2, cf3, cf4, cf5, cf6]
            conv => lhs; whnf
            obtain ⟨y19, hy19, hm⟩ := bind_some hm
            have hk20 : call false 40 [AV.agg [AV.int .i64 (v0_u.mod), AV.sl 1 (List.map encI (v0_u.init)), AV.sl 1 (List.map encI (v0_u.regs)), AV.sl 1 (List.map encThr (v0_u.code))], AV.agg [AV.sl 1 (List.map encI (v1_c.pc)), AV.sl 1 (List.map encRow (v1_c.regs)), AV.sl 1 (List.map encI (v1_c.mem)), AV.sl 1 (List.map encBuf (v1_c.buf))]] [] = some (AV.bool (y19), []) := (hc _ _ _).trans (ok_ref09_Final n v0_u v1_c y19 hy19)
            simp only [hk20, List.length_map, take_map_len, cf0, cf1, cf2, cf3, cf4, cf5, cf6]
            conv => lhs; whnf
            rcases bif_or hm with ⟨hc21, hm⟩ | ⟨hc21, hm⟩
            · simp only [hc21, List.length_map, take_map_len, cf0, cf1, cf2, cf3, cf4, cf5, cf6]
              conv => lhs; whnf
              obtain ⟨y22, hy22, hm⟩ := bind_some hm
              have hk23 : call false 41 [AV.agg [AV.int .i64 (v0_u.mod), AV.sl 1 (List.map encI (v0_u.init)), AV.sl 1 (List.map encI (v0_u.regs)), AV.sl 1 (List.map encThr (v0_u.code))], AV.agg [AV.sl 1 (List.map encI (v1_c.pc)), AV.sl 1 (List.map encRow (v1_c.regs)), AV.sl 1 (List.map encI (v1_c.mem)), AV.sl 1 (List.map encBuf (v1_c.buf))], AV.int .i64 ((v2_how).2.2)] [] = some (AV.bool (y22), []) := (hc _ _ _).trans (ok_conf_Ended n v0_u v1_c ((v2_how).2.2) y22 hy22)
              simp only [hk23, List.length_map, take_map_len, cf0, cf1, cf2, cf3, cf4, cf5, cf6]
              conv => lhs; whnf
              obtain ⟨y24, hy24, hm⟩ := bind_some hm
              have hk25 : call false 42 [AV.agg [AV.int .i64 (v0_u.mod), AV.sl 1 (List.map encI (v0_u.init)), AV.sl 1 (List.map encI (v0_u.regs)), AV.sl 1 (List.map encThr (v0_u.code))], AV.agg [AV.sl 1 (List.map encI (v1_c.pc)), AV.sl 1 (List.map encRow (v1_c.regs)), AV.sl 1 (List.map encI (v1_c.mem)), AV.sl 1 (List.map encBuf (v1_c.buf))], AV.int .i64 ((v2_how).2.2)] [] = some (AV.bool (y24), []) := (hc _ _ _).trans (ok_ref09_Ended n v0_u v1_c ((v2_how).2.2) y24 hy24)
              simp only [hk25, List.length_map, take_map_len, cf0, cf1, cf2, cf3, cf4, cf5, cf6]
              conv => lhs; whnf
              rcases bif_or hm with ⟨hc26, hm⟩ | ⟨hc26, hm⟩
              · simp only [hc26, List.length_map, take_map_len, cf0, cf1, cf2, cf3, cf4, cf5, cf6]
                conv => lhs; whnf
                obtain ⟨y27, hy27, hm⟩ := bind_some hm
                have hk28 : call false 41 [AV.agg [AV.int .i64 (v0_u.mod), AV.sl 1 (List.map encI (v0_u.init)), AV.sl 1 (List.map encI (v0_u.regs)), AV.sl 1 (List.map encThr (v0_u.code))], AV.agg [AV.sl 1 (List.map encI (v1_c.pc)), AV.sl 1 (List.map encRow (v1_c.regs)), AV.sl 1 (List.map encI (v1_c.mem)), AV.sl 1 (List.map encBuf (v1_c.buf))], AV.int .i64 (0)] [] = some (AV.bool (y27), []) := (hc _ _ _).trans (ok_conf_Ended n v0_u v1_c 0 y27 hy27)
                simp only [hk28, List.length_map, take_map_len, cf0, cf1, cf2, cf3, cf4, cf5, cf6]
                conv => lhs; whnf
                obtain ⟨y29, hy29, hm⟩ := bind_some hm
                have hk30 : call false 42 [AV.agg [AV.int .i64 (v0_u.mod), AV.sl 1 (List.map encI (v0_u.init)), AV.sl 1 (List.map encI (v0_u.regs)), AV.sl 1 (List.map encThr (v0_u.code))], AV.agg [AV.sl 1 (List.map encI (v1_c.pc)), AV.sl 1 (List.map encRow (v1_c.regs)), AV.sl 1 (List.map encI (v1_c.mem)), AV.sl 1 (List.map encBuf (v1_c.buf))], AV.int .i64 (0)] [] = some (AV.bool (y29), []) := (hc _ _ _).trans (ok_ref09_Ended n v0_u v1_c 0 y29 hy29)
                simp only [hk30, List.length_map, take_map_len, cf0, cf1, cf2, cf3, cf4, cf5, cf6]
                conv => lhs; whnf
                rcases bif_or hm with ⟨hc31, hm⟩ | ⟨hc31, hm⟩
                · simp only [hc31, List.length_map, take_map_len, cf0, cf1, cf2, cf3, cf4, cf5, cf6]
                  conv => lhs; whnf
                  obtain ⟨y32, hy32, hm⟩ := bind_some hm
                  have hk33 : call false 30 [] [] = some (AV.bool (y32), []) := (hc _ _ _).trans (ok_law09_known n  y32 hy32)
                  simp only [hk33, List.length_map, take_map_len, cf0, cf1, cf2, cf3, cf4, cf5, cf6]
                  conv => lhs; whnf
                  obtain rfl := Option.some.inj hm
                  try simp only [List.length_map, take_map_len]
                  refine fin_eq (y := some (AV.bool (y32), [])) rfl ?_
                  first | rfl | (simp only [take_map_len, cf0, cf1, cf2, cf3, cf4, cf5, cf6] <;> rfl)
                · simp only [hc31, List.length_map, take_map_len, cf0, cf1, cf2, cf3, cf4, cf5, cf6]
                  conv => lhs; whnf
                  obtain rfl := Option.some.inj hm
                  try simp only [List.length_map, take_map_len]
                  refine fin_eq (y := some (AV.bool (false), [])) rfl ?_
                  first | rfl | (simp only [take_map_len, cf0, cf1, cf2, cf3, cf4, cf5, cf6] <;> rfl)
              · simp only [hc26, List.length_map, take_map_len, cf0, cf1, cf2, cf3, cf4, cf5, cf6]
                conv => lhs; whnf
                obtain rfl := Option.some.inj hm
                try simp only [List.length_map, take_map_len]
                refine fin_eq (y := some (AV.bool (false), [])) rfl ?_
                first | rfl | (simp only [take_map_len, cf0, cf1, cf2, cf3, cf4, cf5, cf6] <;> rfl)
            · simp only [hc21, List.length_map, take_map_len, cf0, cf1, cf2, cf3, cf4, cf5, cf6]
              conv => lhs; whnf
              obtain rfl := Option.some.inj hm
              try simp only [List.length_map, take_map_len]
              refine fin_eq (y := some (AV.bool (false), [])) rfl ?_
              first | rfl | (simp only [take_map_len, cf0, cf1, cf2, cf3, cf4, cf5, cf6] <;> rfl)
          · simp only [hc16, List.length_map, take_map_len, cf0, cf1, cf2, cf3, cf4, cf5, cf6]
            conv => lhs; whnf
            obtain rfl := Option.some.inj hm
            try simp only [List.length_map, take_map_len]
            refine fin_eq (y := some (AV.bool (false), [])) rfl ?_
            first | rfl | (simp only [take_map_len, cf0, cf1, cf2, cf3, cf4, cf5, cf6] <;> rfl)
        · simp only [hc11, List.length_map, take_map_len, cf0, cf1, cf2, cf3, cf4, cf5, cf6]
          conv => lhs; whnf
          obtain rfl := Option.some.inj hm
          try simp only [List.length_map, take_map_len]
          refine fin_eq (y := some (AV.bool (false), [])) rfl ?_
          first | rfl | (simp only [take_map_len, cf0, cf1, cf2, cf3, cf4, cf5, cf6] <;> rfl)
      · simp only [hc6, List.length_map, take_map_len, cf0, cf1, cf2, cf3, cf4, cf5, cf6]
        conv => lhs; whnf
        obtain ⟨y34, hy34, hm⟩ := bind_some hm
        have hk35 : call false 30 [] [] = some (AV.bool (y34), []) := (hc _ _ _).trans (ok_law09_known n  y34 hy34)
        simp only [hk35, List.length_map, take_map_len, cf0, cf1, cf2, cf3, cf4, cf5, cf6]
        conv => lhs; whnf
        obtain rfl := Option.some.inj hm
        try simp only [List.length_map, take_map_len]
        refine fin_eq (y := some (AV.bool (y34), [])) rfl ?_
        first | rfl | (simp only [take_map_len, cf0, cf1, cf2, cf3, cf4, cf5, cf6] <;> rfl)
    · simp only [hc3, List.length_map, take_map_len, cf0, cf1, cf2, cf3, cf4, cf5, cf6]
      conv => lhs; whnf
      obtain ⟨y36, hy36, hm⟩ := bind_some hm
      have hk37 : call false 30 [] [] = some (AV.bool (y36), []) := (hc _ _ _).trans (ok_law09_known n  y36 hy36)
      simp only [hk37, List.length_map, take_map_len, cf0, cf1, cf2, cf3, cf4, cf5, cf6]
      conv => lhs; whnf
      obtain rfl := Option.some.inj hm
      try simp only [List.length_map, take_map_len]
      refine fin_eq (y := some (AV.bool (y36), [])) rfl ?_
      first | rfl | (simp only [take_map_len, cf0, cf1, cf2, cf3, cf4, cf5, cf6] <;> rfl)

def law09_ConfBegins_L0 (n : Nat)  (v0_u : UnitS) : Nat → Bool → Int → Option (LR Bool Bool)
  | 0, _, _ => none
  | k11+1, s9, s10 => (bif decide (s10 < (((v0_u.code).length : Nat) : Int)) then (bif s9 then ((idx v0_u.code s10).bind fun x21 => (law09_ConfBegins_L0 n v0_u k11 ((((x21).length : Nat) : Int) == 1) (IntKind.i64.wrap (s10 + 1)))) else (law09_ConfBegins_L0 n v0_u k11 false (IntKind.i64.wrap (s10 + 1)))) else (some (.out s9)))
def m_law09_ConfBegins : Nat → UnitS → Int → Int → Option Bool
  | 0, _, _, _ => none
  | n+1, v0_u, v1_model, v2_room => ((m_ref07_Light n v0_u).bind fun y1 => (bif y1 then ((m_ref07_Right n v0_u).bind fun y4 => (bif y4 then ((m_conf_Start n v0_u).bind fun y7 => ((law09_ConfBegins_L0 n v0_u n true 0).bind fun o18 => match o18 with | .out x23 => (bif (((y7).2) == 0) then ((m_conf_Right n v0_u ((y7).1) (IntKind.i64.wrap (1 + (Int.tmod (IntKind.i64.wrap (v1_model)) 3))) (IntKind.i64.wrap (1 + (Int.tmod (IntKind.i64.wrap (v2_room)) 4)))).bind fun y25 => (bif y25 then ((m_conf_Quiet n ((y7).1)).bind fun y28 => (bif y28 then ((m_conf_Final n v0_u ((y7).1)).bind fun y31 => (bif (y31 == x23) then ((m_law09_known n ).bind fun y34 => (some y34)) else (some false))) else (some false))) else (some false))) else (some false)) | .ret v => some v)) else ((m_law09_known n ).bind fun y37 => (some y37)))) else ((m_law09_known n ).bind fun y39 => (some y39))))
set_option maxHeartbeats 4000000 in
theorem ok_law09_ConfBegins (n : Nat) : ∀ (v0_u : UnitS) (v1_model : Int) (v2_room : Int) (r : Bool), m_law09_ConfBegins n v0_u v1_model v2_room = some r → callN Try.prog HH XT n 11 [AV.agg (cellsU (v0_u)), AV.int .u8 (v1_model), AV.int .u8 (v2_room)] [] = some (AV.bool (r), []) := by
  cases n with
  | zero => intro v0_u v1_model v2_room r hm; exact absurd hm (by intro h; cases h)
  | succ n =>
    intro v0_u v1_model v2_room r hm
    have cf0 : Program.cellsOf Try.prog 3 = 1 := by kernel_rfl
    have cf1 : Program.cellsOf Try.prog 67 = 1 := by kernel_rfl
    have cf2 : Program.cellsOf Try.prog 81 = 7 := by kernel_rfl
    have cf3 : Program.cellsOf Try.prog 134 = 3 := by kernel_rfl
    have cf4 : Program.cellsOf Try.prog 22 = 1 := by kernel_rfl
    have cf5 : Program.cellsOf Try.prog 40 = 1 := by kernel_rfl
    have cf6 : Program.cellsOf Try.prog 42 = 2 := by kernel_rfl
    rw [m_law09_ConfBegins] at hm
    refine callN_eq' Try.func11 (by rfl) rfl rfl (Nat.le_of_ble_eq_true rfl) ?_
    intro call hc
    conv => lhs; whnf
    obtain ⟨y1, hy1, hm⟩ := bind_some hm
    have hk2 : call false 17 [AV.agg [AV.int .i64 (v0_u.mod), AV.sl 1 (List.map encI (v0_u.init)), AV.sl 1 (List.map encI (v0_u.regs)), AV.sl 1 (List.map encThr (v0_u.code))]] [] = some (AV.bool (y1), []) := (hc _ _ _).trans (ok_ref07_Light n v0_u y1 hy1)
    simp only [hk2, List.length_map, take_map_len, cf0, cf1, cf2, cf3, cf4, cf5, cf6]
    conv => lhs; whnf
    rcases bif_or hm with ⟨hc3, hm⟩ | ⟨hc3, hm⟩
    · simp only [hc3, List.length_map, take_map_len, cf0, cf1, cf2, cf3, cf4, cf5, cf6]
      conv => lhs; whnf
      obtain ⟨y4, hy4, hm⟩ := bind_some hm
      have hk5 : call false 21 [AV.agg [AV.int .i64 (v0_u.mod), AV.sl 1 (List.map encI (v0_u.init)), AV.sl 1 (List.map encI (v0_u.regs)), AV.sl 1 (List.map encThr (v0_u.code))]] [] = some (AV.bool (y4), []) := (hc _ _ _).trans (ok_ref07_Right n v0_u y4 hy4)
      simp only [hk5, List.length_map, take_map_len, cf0, cf1, cf2, cf3, cf4, cf5, cf6]
      conv => lhs; whnf
      rcases bif_or hm with ⟨hc6, hm⟩ | ⟨hc6, hm⟩
      · simp only [hc6, List.length_map, take_map_len, cf0, cf1, cf2, cf3, cf4, cf5, cf6]
        conv => lhs; whnf
        obtain ⟨y7, hy7, hm⟩ := bind_some hm
        have hk8 : call false 31 [AV.agg [AV.int .i64 (v0_u.mod), AV.sl 1 (List.map encI (v0_u.init)), AV.sl 1 (List.map encI (v0_u.regs)), AV.sl 1 (List.map encThr (v0_u.code))]] [] = some (AV.tup [AV.agg (cellsC ((y7).1)), AV.int .i64 ((y7).2)], []) := (hc _ _ _).trans (ok_conf_Start n v0_u y7 hy7)
        simp only [hk8, List.length_map, take_map_len, cf0, cf1, cf2, cf3, cf4, cf5, cf6]
        conv => lhs; whnf
        obtain ⟨o18, ho18, hm⟩ := bind_some hm
        refine rounds_sim (σ := (Bool × Int)) (τ := Bool) (ν := Bool) 0 (fun (s9, s10) a12 => stOf 75 [(1, AV.int .u8 (v1_model)), (2, AV.int .u8 (v2_room)), (3, AV.ptr 0 0), (7, AV.ptr 1 0), (8, AV.int .i64 ((y7).2)), (9, AV.bool (s9)), (10, AV.int .i64 (s10))]) (fun (s9, s10) => [Ob.var 25 [AV.int .i64 (v0_u.mod), AV.sl 1 (List.map encI (v0_u.init)), AV.sl 1 (List.map encI (v0_u.regs)), AV.sl 1 (List.map encThr (v0_u.code))], Ob.var 57 [AV.sl 1 (List.map encI ((y7).1.pc)), AV.sl 1 (List.map encRow ((y7).1.regs)), AV.sl 1 (List.map encI ((y7).1.mem)), AV.sl 1 (List.map encBuf ((y7).1.buf))]]) (fun x23 a22 => stOf 75 [(1, AV.int .u8 (v1_model)), (2, AV.int .u8 (v2_room)), (3, AV.ptr 0 0), (7, AV.ptr 1 0), (8, AV.int .i64 ((y7).2)), (9, AV.bool (x23))]) (fun x23 => [Ob.var 25 [AV.int .i64 (v0_u.mod), AV.sl 1 (List.map encI (v0_u.init)), AV.sl 1 (List.map encI (v0_u.regs)), AV.sl 1 (List.map encThr (v0_u.code))], Ob.var 57 [AV.sl 1 (List.map encI ((y7).1.pc)), AV.sl 1 (List.map encRow ((y7).1.regs)), AV.sl 1 (List.map encI ((y7).1.mem)), AV.sl 1 (List.map encBuf ((y7).1.buf))]]) (fun v => (AV.bool (v), [])) (fun k s => law09_ConfBegins_L0 n v0_u k ((s).1) ((s).2)) (fun s => rfl) o18 ?_ n (true, 0) (fun _ => AV.junk) _ _ ho18 ?_ (by first | rfl | (simp only [List.length_map, List.map_append, List.map_cons, List.map_nil, take_map_len, List.append_nil, cf0, cf1, cf2, cf3, cf4, cf5, cf6] <;> rfl)) (by first | rfl | (simp only [List.length_map, List.map_append, List.map_cons, List.map_nil, take_map_len, List.append_nil, cf0, cf1, cf2, cf3, cf4, cf5, cf6] <;> rfl))
        · intro k11 ss a12 K13 cont14 hK15 hcont16 hm hr17
          obtain ⟨s9, s10⟩ := ss
          replace hm : law09_ConfBegins_L0 n v0_u (k11 + 1) s9 s10 = some o18 := hm
          rw [law09_ConfBegins_L0] at hm
          conv => lhs; whnf
          rcases bif_or hm with ⟨hc19, hm⟩ | ⟨hc19, hm⟩
          · simp only [hc19, List.length_map, take_map_len, cf0, cf1, cf2, cf3, cf4, cf5, cf6]
            conv => lhs; whnf
            rcases bif_or hm with ⟨hc20, hm⟩ | ⟨hc20, hm⟩
            · simp only [hc20, List.length_map, take_map_len, cf0, cf1, cf2, cf3, cf4, cf5, cf6]
              conv => lhs; whnf
              obtain ⟨x21, hx21, hm⟩ := bind_some hm
              refine bif_pos (by first | exact idx_in hx21 | exact idx_in' hx21) ?_
              simp only [idx_nth (f := encThr) hx21, List.length_map, take_map_len, cf0, cf1, cf2, cf3, cf4, cf5, cf6]
              conv => lhs; whnf
              exact cont_eq (hcont16 (((((x21).length : Nat) : Int) == 1), IntKind.i64.wrap (s10 + 1)) a12 hm) (by first | rfl | (simp only [List.length_map, List.map_append, List.map_cons, List.map_nil, take_map_len, List.append_nil, cf0, cf1, cf2, cf3, cf4, cf5, cf6] <;> rfl)) (by first | rfl | (simp only [List.length_map, List.map_append, List.map_cons, List.map_nil, take_map_len, List.append_nil, cf0, cf1, cf2, cf3, cf4, cf5, cf6] <;> rfl))
            · simp only [hc20, List.length_map, take_map_len, cf0, cf1, cf2, cf3, cf4, cf5, cf6]
              conv => lhs; whnf
              exact cont_eq (hcont16 (false, IntKind.i64.wrap (s10 + 1)) a12 hm) (by first | rfl | (simp only [List.length_map, List.map_append, List.map_cons, List.map_nil, take_map_len, List.append_nil, cf0, cf1, cf2, cf3, cf4, cf5, cf6] <;> rfl)) (by first | rfl | (simp only [List.length_map, List.map_append, List.map_cons, List.map_nil, take_map_len, List.append_nil, cf0, cf1, cf2, cf3, cf4, cf5, cf6] <;> rfl))
          · simp only [hc19, List.length_map, take_map_len, cf0, cf1, cf2, cf3, cf4, cf5, cf6]
            conv => lhs; whnf
            obtain rfl := Option.some.inj hm
            exact kont_eq (hr17 a12) (by first | rfl | (simp only [List.length_map, List.map_append, List.map_cons, List.map_nil, take_map_len, List.append_nil, cf0, cf1, cf2, cf3, cf4, cf5, cf6] <;> rfl)) (by first | rfl | (simp only [List.length_map, List.map_append, List.map_cons, List.map_nil, take_map_len, List.append_nil, cf0, cf1, cf2, cf3, cf4, cf5, cf6] <;> rfl))
        · cases o18 with
          | ret v =>
            obtain rfl := Option.some.inj hm
            rfl
          | out t =>
            obtain ⟨x23, rfl⟩ : ∃ x, x = t := ⟨_, rfl⟩
            intro a22
            dsimp only at hm
            conv => lhs; whnf
            rcases bif_or hm with ⟨hc24, hm⟩ | ⟨hc24, hm⟩
            · simp only [hc24, List.length_map, take_map_len, cf0, cf1, cf2, cf3, cf4, cf5, cf6]
              conv => lhs; whnf
              obtain ⟨y25, hy25, hm⟩ := bind_some hm
              have hk26 : call false 35 [AV.agg [AV.int .i64 (v0_u.mod), AV.sl 1 (List.map encI (v0_u.init)), AV.sl 1 (List.map encI (v0_u.regs)), AV.sl 1 (List.map encThr (v0_u.code))], AV.agg [AV.sl 1 (List.map encI ((y7).1.pc)), AV.sl 1 (List.map encRow ((y7).1.regs)), AV.sl 1 (List.map encI ((y7).1.mem)), AV.sl 1 (List.map encBuf ((y7).1.buf))], AV.int .i64 (IntKind.i64.wrap (1 + (Int.tmod (IntKind.i64.wrap (v1_model)) 3))), AV.int .i64 (IntKind.i64.wrap (1 + (Int.tmod (IntKind.i64.wrap (v2_room)) 4)))] [] = some (AV.bool (y25), []) := (hc _ _ _).trans (ok_conf_Right n v0_u ((y7).1) (IntKind.i64.wrap (1 + (Int.tmod (IntKind.i64.wrap (v1_model)) 3))) (IntKind.i64.wrap (1 + (Int.tmod (IntKind.i64.wrap (v2_room)) 4))) y25 hy25)
              simp only [hk26, List.length_map, take_map_len, cf0, cf1, cf2, cf3, cf4, cf5, cf6]
              conv => lhs; whnf
              rcases bif_or hm with ⟨hc27, hm⟩ | ⟨hc27, hm⟩
              · simp only [hc27, List.length_map, take_map_len, cf0, cf1, cf2, cf3, cf4, cf5, cf6]
                conv => lhs; whnf
                obtain ⟨y28, hy28, hm⟩ := bind_some hm
                have hk29 : call false 37 [AV.agg [AV.sl 1 (List.map encI ((y7).1.pc)), AV.sl 1 (List.map encRow ((y7).1.regs)), AV.sl 1 (List.map encI ((y7).1.mem)), AV.sl 1 (List.map encBuf ((y7).1.buf))]] [] = some (AV.bool (y28), []) := (hc _ _ _).trans (ok_conf_Quiet n ((y7).1) y28 hy28)
                simp only [hk29, List.length_map, take_map_len, cf0, cf1, cf2, cf3, cf4, cf5, cf6]
                conv => lhs; whnf
                rcases bif_or hm with ⟨hc30, hm⟩ | ⟨hc30, hm⟩
                · simp only [hc30, List.length_map, take_map_len, cf0, cf1, cf2, cf3, cf4, cf5, cf6]
                  conv => lhs; whnf
                  obtain ⟨y31, hy31, hm⟩ := bind_some hm
                  have hk32 : call false 39 [AV.agg [AV.int .i64 (v0_u.mod), AV.sl 1 (List.map encI (v0_u.init)), AV.sl 1 (List.map encI (v0_u.regs)), AV.sl 1 (List.map encThr (v0_u.code))], AV.agg [AV.sl 1 (List.map encI ((y7).1.pc)), AV.sl 1 (List.map encRow ((y7).1.regs)), AV.sl 1 (List.map encI ((y7).1.mem)), AV.sl 1 (List.map encBuf ((y7).1.buf))]] [] = some (AV.bool (y31), []) := (hc _ _ _).trans (ok_conf_Final n v0_u ((y7).1) y31 hy31)
                  simp only [hk32, List.length_map, take_map_len, cf0, cf1, cf2, cf3, cf4, cf5, cf6]
                  conv => lhs; whnf
                  rcases bif_or hm with ⟨hc33, hm⟩ | ⟨hc33, hm⟩
                  · simp only [hc33, List.length_map, take_map_len, cf0, cf1, cf2, cf3, cf4, cf5, cf6]
                    conv => lhs; whnf
                    obtain ⟨y34, hy34, hm⟩ := bind_some hm
                    have hk35 : call false 30 [] [] = some (AV.bool (y34), []) := (hc _ _ _).trans (ok_law09_known n  y34 hy34)
                    simp only [hk35, List.length_map, take_map_len, cf0, cf1, cf2, cf3, cf4, cf5, cf6]
                    conv => lhs; whnf
                    obtain rfl := Option.some.inj hm
                    try simp only [List.length_map, take_map_len]
                    refine fin_eq (y := some (AV.bool (y34), [])) rfl ?_
                    first | rfl | (simp only [take_map_len, cf0, cf1, cf2, cf3, cf4, cf5, cf6] <;> rfl)
                  · simp only [hc33, List.length_map, take_map_len, cf0, cf1, cf2, cf3, cf4, cf5, cf6]
                    conv => lhs; whnf
                    obtain rfl := Option.some.inj hm
                    try simp only [List.length_map, take_map_len]
                    refine fin_eq (y := some (AV.bool (false), [])) rfl ?_
                    first | rfl | (simp only [take_map_len, cf0, cf1, cf2, cf3, cf4, cf5, cf6] <;> rfl)
                · simp only [hc30, List.length_map, take_map_len, cf0, cf1, cf2, cf3, cf4, cf5, cf6]
                  conv => lhs; whnf
                  obtain rfl := Option.some.inj hm
                  try simp only [List.length_map, take_map_len]
                  refine fin_eq (y := some (AV.bool (false), [])) rfl ?_
                  first | rfl | (simp only [take_map_len, cf0, cf1, cf2, cf3, cf4, cf5, cf6] <;> rfl)
              · simp only [hc27, List.length_map, take_map_len, cf0, cf1, cf2, cf3, cf4, cf5, cf6]
                conv => lhs; whnf
                obtain rfl := Option.some.inj hm
                try simp only [List.length_map, take_map_len]
                refine fin_eq (y := some (AV.bool (false), [])) rfl ?_
                first | rfl | (simp only [take_map_len, cf0, cf1, cf2, cf3, cf4, cf5, cf6] <;> rfl)
            · simp only [hc24, List.length_map, take_map_len, cf0, cf1, cf2, cf3, cf4, cf5, cf6]
              conv => lhs; whnf
              obtain rfl := Option.some.inj hm
              try simp only [List.length_map, take_map_len]
              refine fin_eq (y := some (AV.bool (false), [])) rfl ?_
              first | rfl | (simp only [take_map_len, cf0, cf1, cf2, cf3, cf4, cf5, cf6] <;> rfl)
      · simp only [hc6, List.length_map, take_map_len, cf0, cf1, cf2, cf3, cf4, cf5, cf6]
        conv => lhs; whnf
        obtain ⟨y37, hy37, hm⟩ := bind_some hm
        have hk38 : call false 30 [] [] = some (AV.bool (y37), []) := (hc _ _ _).trans (ok_law09_known n  y37 hy37)
        simp only [hk38, List.length_map, take_map_len, cf0, cf1, cf2, cf3, cf4, cf5, cf6]
        conv => lhs; whnf
        obtain rfl := Option.some.inj hm
        try simp only [List.length_map, take_map_len]
        refine fin_eq (y := some (AV.bool (y37), [])) rfl ?_
        first | rfl | (simp only [take_map_len, cf0, cf1, cf2, cf3, cf4, cf5, cf6] <;> rfl)
    · simp only [hc3, List.length_map, take_map_len, cf0, cf1, cf2, cf3, cf4, cf5, cf6]
      conv => lhs; whnf
      obtain ⟨y39, hy39, hm⟩ := bind_some hm
      have hk40 : call false 30 [] [] = some (AV.bool (y39), []) := (hc _ _ _).trans (ok_law09_known n  y39 hy39)
      simp only [hk40, List.length_map, take_map_len, cf0, cf1, cf2, cf3, cf4, cf5, cf6]
      conv => lhs; whnf
      obtain rfl := Option.some.inj hm
      try simp only [List.length_map, take_map_len]
      refine fin_eq (y := some (AV.bool (y39), [])) rfl ?_
      first | rfl | (simp only [take_map_len, cf0, cf1, cf2, cf3, cf4, cf5, cf6] <;> rfl)
end Go.Proofs.Ytaocgmkcjemecaa
