/- Models of the program's functions, and that the interpreter computes them. (Printed by gen.py.) Parts of the proofs of the laws. Conditions: none. -/
import Derived.Test.YtaocgmkcjemecaaMA
namespace Go.Proofs.Ytaocgmkcjemecaa
set_option linter.unusedVariables false
set_option linter.unusedSimpArgs false
set_option maxRecDepth 100000

def ref08_Right_L0 (n : Nat)  (v0_b : (List EntryS)) (v1_model : Int) (v2_room : Int) (v3_mod : Int) (v4_locs : Int) : Nat → Int → Option (LR Unit Bool)
  | 0, _ => none
  | k8+1, s7 => (bif decide (s7 < (((v0_b).length : Nat) : Int)) then ((idx v0_b s7).bind fun x17 => (bif decide (x17.loc < 0) then (some (.ret false)) else ((idx v0_b s7).bind fun x19 => (bif decide (v4_locs ≤ x19.loc) then (some (.ret false)) else ((idx v0_b s7).bind fun x21 => (bif decide (x21.n < 0) then (some (.ret false)) else ((idx v0_b s7).bind fun x23 => (bif decide (v3_mod ≤ x23.n) then (some (.ret false)) else (bif (v1_model == 3) then (bif decide (0 < s7) then ((idx v0_b s7).bind fun x27 => ((idx v0_b (IntKind.i64.wrap (s7 - 1))).bind fun x28 => (bif decide (x27.loc < x28.loc) then (some (.ret false)) else ((idx v0_b s7).bind fun x30 => ((m_ref08_count n v0_b x30.loc).bind fun y31 => (bif decide (v2_room < y31) then (some (.ret false)) else (ref08_Right_L0 n v0_b v1_model v2_room v3_mod v4_locs k8 (IntKind.i64.wrap (s7 + 1))))))))) else ((idx v0_b s7).bind fun x34 => ((m_ref08_count n v0_b x34.loc).bind fun y35 => (bif decide (v2_room < y35) then (some (.ret false)) else (ref08_Right_L0 n v0_b v1_model v2_room v3_mod v4_locs k8 (IntKind.i64.wrap (s7 + 1))))))) else (ref08_Right_L0 n v0_b v1_model v2_room v3_mod v4_locs k8 (IntKind.i64.wrap (s7 + 1)))))))))))) else (some (.out ())))
def m_ref08_Right : Nat → (List EntryS) → Int → Int → Int → Int → Option Bool
  | 0, _, _, _, _, _ => none
  | n+1, v0_b, v1_model, v2_room, v3_mod, v4_locs => (bif decide (v1_model < 1) then (some false) else (bif decide (3 < v1_model) then (some false) else (bif decide (v2_room < 1) then (some false) else (bif decide (4 < v2_room) then (some false) else (bif decide (v3_mod < 2) then (some false) else (bif decide (16 < v3_mod) then (some false) else ((ref08_Right_L0 n v0_b v1_model v2_room v3_mod v4_locs n 0).bind fun o15 => match o15 with | .out _ => (bif (v1_model != 1) then (bif (v1_model == 3) then (some true) else (bif decide ((((v0_b).length : Nat) : Int) ≤ v2_room) then (some true) else (some ((((v0_b).length : Nat) : Int) == 0)))) else (some ((((v0_b).length : Nat) : Int) == 0))) | .ret v => some v)))))))
set_option maxHeartbeats 4000000 in
theorem ok_ref08_Right (n : Nat) : ∀ (v0_b : (List EntryS)) (v1_model : Int) (v2_room : Int) (v3_mod : Int) (v4_locs : Int) (r : Bool), m_ref08_Right n v0_b v1_model v2_room v3_mod v4_locs = some r → callN Try.prog HH XT n 28 [AV.sl 2 (List.map encE (v0_b)), AV.int .i64 (v1_model), AV.int .i64 (v2_room), AV.int .i64 (v3_mod), AV.int .i64 (v4_locs)] [] = some (AV.bool (r), []) := by
  cases n with
  | zero => intro v0_b v1_model v2_room v3_mod v4_locs r hm; exact absurd hm (by intro h; cases h)
  | succ n =>
    intro v0_b v1_model v2_room v3_mod v4_locs r hm
    have cf0 : Program.cellsOf Try.prog 42 = 2 := by kernel_rfl
    rw [m_ref08_Right] at hm
    refine callN_eq' Try.func28 (by rfl) rfl rfl (Nat.le_of_ble_eq_true rfl) ?_
    intro call hc
    conv => lhs; whnf
    rcases bif_or hm with ⟨hc1, hm⟩ | ⟨hc1, hm⟩
    · simp only [hc1, List.length_map, take_map_len, cf0]
      conv => lhs; whnf
      obtain rfl := Option.some.inj hm
      try simp only [List.length_map, take_map_len]
      refine fin_eq (y := some (AV.bool (false), [])) rfl ?_
      first | rfl | (simp only [take_map_len, cf0] <;> rfl)
    · simp only [hc1, List.length_map, take_map_len, cf0]
      conv => lhs; whnf
      rcases bif_or hm with ⟨hc2, hm⟩ | ⟨hc2, hm⟩
      · simp only [hc2, List.length_map, take_map_len, cf0]
        conv => lhs; whnf
        obtain rfl := Option.some.inj hm
        try simp only [List.length_map, take_map_len]
        refine fin_eq (y := some (AV.bool (false), [])) rfl ?_
        first | rfl | (simp only [take_map_len, cf0] <;> rfl)
      · simp only [hc2, List.length_map, take_map_len, cf0]
        conv => lhs; whnf
        rcases bif_or hm with ⟨hc3, hm⟩ | ⟨hc3, hm⟩
        · simp only [hc3, List.length_map, take_map_len, cf0]
          conv => lhs; whnf
          obtain rfl := Option.some.inj hm
          try simp only [List.length_map, take_map_len]
          refine fin_eq (y := some (AV.bool (false), [])) rfl ?_
          first | rfl | (simp only [take_map_len, cf0] <;> rfl)
        · simp only [hc3, List.length_map, take_map_len, cf0]
          conv => lhs; whnf
          rcases bif_or hm with ⟨hc4, hm⟩ | ⟨hc4, hm⟩
          · simp only [hc4, List.length_map, take_map_len, cf0]
            conv => lhs; whnf
            obtain rfl := Option.some.inj hm
            try simp only [List.length_map, take_map_len]
            refine fin_eq (y := some (AV.bool (false), [])) rfl ?_
            first | rfl | (simp only [take_map_len, cf0] <;> rfl)
          · simp only [hc4, List.length_map, take_map_len, cf0]
            conv => lhs; whnf
            rcases bif_or hm with ⟨hc5, hm⟩ | ⟨hc5, hm⟩
            · simp only [hc5, List.length_map, take_map_len, cf0]
              conv => lhs; whnf
              obtain rfl := Option.some.inj hm
              try simp only [List.length_map, take_map_len]
              refine fin_eq (y := some (AV.bool (false), [])) rfl ?_
              first | rfl | (simp only [take_map_len, cf0] <;> rfl)
            · simp only [hc5, List.length_map, take_map_len, cf0]
              conv => lhs; whnf
              rcases bif_or hm with ⟨hc6, hm⟩ | ⟨hc6, hm⟩
              · simp only [hc6, List.length_map, take_map_len, cf0]
                conv => lhs; whnf
                obtain rfl := Option.some.inj hm
                try simp only [List.length_map, take_map_len]
                refine fin_eq (y := some (AV.bool (false), [])) rfl ?_
                first | rfl | (simp only [take_map_len, cf0] <;> rfl)
              · simp only [hc6, List.length_map, take_map_len, cf0]
                conv => lhs; whnf
                obtain ⟨o15, ho15, hm⟩ := bind_some hm
                refine rounds_sim (σ := Int) (τ := Unit) (ν := Bool) 0 (fun s7 a9 => stOf 122 [(0, AV.sl 2 (List.map encE (v0_b))), (1, AV.int .i64 (v1_model)), (2, AV.int .i64 (v2_room)), (3, AV.int .i64 (v3_mod)), (4, AV.int .i64 (v4_locs)), (11, AV.int .i64 (s7))]) (fun s7 => []) (fun _ a38 => stOf 122 [(0, AV.sl 2 (List.map encE (v0_b))), (1, AV.int .i64 (v1_model)), (2, AV.int .i64 (v2_room))]) (fun _ => []) (fun v => (AV.bool (v), [])) (fun k s => ref08_Right_L0 n v0_b v1_model v2_room v3_mod v4_locs k s) (fun s => rfl) o15 ?_ n 0 (fun _ => AV.junk) _ _ ho15 ?_ (by first | rfl | (simp only [List.length_map, List.map_append, List.map_cons, List.map_nil, take_map_len, List.append_nil, cf0] <;> rfl)) (by first | rfl | (simp only [List.length_map, List.map_append, List.map_cons, List.map_nil, take_map_len, List.append_nil, cf0] <;> rfl))
                · intro k8 ss a9 K10 cont11 hK12 hcont13 hm hr14
                  obtain ⟨s7, rfl⟩ : ∃ x, x = ss := ⟨_, rfl⟩
                  replace hm : ref08_Right_L0 n v0_b v1_model v2_room v3_mod v4_locs (k8 + 1) s7 = some o15 := hm
                  rw [ref08_Right_L0] at hm
                  conv => lhs; whnf
                  rcases bif_or hm with ⟨hc16, hm⟩ | ⟨hc16, hm⟩
                  · simp only [hc16, List.length_map, take_map_len, cf0]
                    conv => lhs; whnf
                    obtain ⟨x17, hx17, hm⟩ := bind_some hm
                    refine bif_pos (by first | exact idx_in hx17 | exact idx_in' hx17) ?_
                    simp only [idx_nth (f := encE) hx17, List.length_map, take_map_len, cf0]
                    conv => lhs; whnf
                    rcases bif_or hm with ⟨hc18, hm⟩ | ⟨hc18, hm⟩
                    · simp only [hc18, List.length_map, take_map_len, cf0]
                      conv => lhs; whnf
                      obtain rfl := Option.some.inj hm
                      refine (hK12 _ _).trans ?_
                      rw [show _ = some _ from hr14]
                      conv => lhs; whnf
                      try simp only [List.length_map, take_map_len]
                      refine fin_eq (y := some (AV.bool (false), [])) rfl ?_
                      first | rfl | (simp only [take_map_len, cf0] <;> rfl)
                    · simp only [hc18, List.length_map, take_map_len, cf0]
                      conv => lhs; whnf
                      obtain ⟨x19, hx19, hm⟩ := bind_some hm
                      refine bif_pos (by first | exact idx_in hx19 | exact idx_in' hx19) ?_
                      simp only [idx_nth (f := encE) hx19, List.length_map, take_map_len, cf0]
                      conv => lhs; whnf
                      rcases bif_or hm with ⟨hc20, hm⟩ | ⟨hc20, hm⟩
                      · simp only [hc20, List.length_map, take_map_len, cf0]
                        conv => lhs; whnf
                        obtain rfl := Option.some.inj hm
                        refine (hK12 _ _).trans ?_
                        rw [show _ = some _ from hr14]
                        conv => lhs; whnf
                        try simp only [List.length_map, take_map_len]
                        refine fin_eq (y := some (AV.bool (false), [])) rfl ?_
                        first | rfl | (simp only [take_map_len, cf0] <;> rfl)
                      · simp only [hc20, List.length_map, take_map_len, cf0]
                        conv => lhs; whnf
                        obtain ⟨x21, hx21, hm⟩ := bind_some hm
                        refine bif_pos (by first | exact idx_in hx21 | exact idx_in' hx21) ?_
                        simp only [idx_nth (f := encE) hx21, List.length_map, take_map_len, cf0]
                        conv => lhs; whnf
                        rcases bif_or hm with ⟨hc22, hm⟩ | ⟨hc22, hm⟩
                        · simp only [hc22, List.length_map, take_map_len, cf0]
                          conv => lhs; whnf
                          obtain rfl := Option.some.inj hm
                          refine (hK12 _ _).trans ?_
                          rw [show _ = some _ from hr14]
                          conv => lhs; whnf
                          try simp only [List.length_map, take_map_len]
                          refine fin_eq (y := some (AV.bool (false), [])) rfl ?_
                          first | rfl | (simp only [take_map_len, cf0] <;> rfl)
                        · simp only [hc22, List.length_map, take_map_len, cf0]
                          conv => lhs; whnf
                          obtain ⟨x23, hx23, hm⟩ := bind_some hm
                          refine bif_pos (by first | exact idx_in hx23 | exact idx_in' hx23) ?_
                          simp only [idx_nth (f := encE) hx23, List.length_map, take_map_len, cf0]
                          conv => lhs; whnf
                          rcases bif_or hm with ⟨hc24, hm⟩ | ⟨hc24, hm⟩
                          · simp only [hc24, List.length_map, take_map_len, cf0]
                            conv => lhs; whnf
                            obtain rfl := Option.some.inj hm
                            refine (hK12 _ _).trans ?_
                            rw [show _ = some _ from hr14]
                            conv => lhs; whnf
                            try simp only [List.length_map, take_map_len]
                            refine fin_eq (y := some (AV.bool (false), [])) rfl ?_
                            first | rfl | (simp only [take_map_len, cf0] <;> rfl)
                          · simp only [hc24, List.length_map, take_map_len, cf0]
                            conv => lhs; whnf
                            rcases bif_or hm with ⟨hc25, hm⟩ | ⟨hc25, hm⟩
                            · simp only [hc25, List.length_map, take_map_len, cf0]
                              conv => lhs; whnf
                              rcases bif_or hm with ⟨hc26, hm⟩ | ⟨hc26, hm⟩
                              · simp only [hc26, List.length_map, take_map_len, cf0]
                                conv => lhs; whnf
                                obtain ⟨x27, hx27, hm⟩ := bind_some hm
                                refine bif_pos (by first | exact idx_in hx27 | exact idx_in' hx27) ?_
                                simp only [idx_nth (f := encE) hx27, List.length_map, take_map_len, cf0]
                                conv => lhs; whnf
                                obtain ⟨x28, hx28, hm⟩ := bind_some hm
                                refine bif_pos (by first | exact idx_in hx28 | exact idx_in' hx28) ?_
                                simp only [idx_nth (f := encE) hx28, List.length_map, take_map_len, cf0]
                                conv => lhs; whnf
                                rcases bif_or hm with ⟨hc29, hm⟩ | ⟨hc29, hm⟩
                                · simp only [hc29, List.length_map, take_map_len, cf0]
                                  conv => lhs; whnf
                                  obtain rfl := Option.some.inj hm
                                  refine (hK12 _ _).trans ?_
                                  rw [show _ = some _ from hr14]
                                  conv => lhs; whnf
                                  try simp only [List.length_map, take_map_len]
                                  refine fin_eq (y := some (AV.bool (false), [])) rfl ?_
                                  first | rfl | (simp only [take_map_len, cf0] <;> rfl)
                                · simp only [hc29, List.length_map, take_map_len, cf0]
                                  conv => lhs; whnf
                                  obtain ⟨x30, hx30, hm⟩ := bind_some hm
                                  refine bif_pos (by first | exact idx_in hx30 | exact idx_in' hx30) ?_
                                  simp only [idx_nth (f := encE) hx30, List.length_map, take_map_len, cf0]
                                  conv => lhs; whnf
                                  obtain ⟨y31, hy31, hm⟩ := bind_some hm
                                  have hk32 : call false 64 [AV.sl 2 (List.map encE (v0_b)), AV.int .i64 (x30.loc)] [] = some (AV.int .i64 (y31), []) := (hc _ _ _).trans (ok_ref08_count n v0_b x30.loc y31 hy31)
                                  simp only [hk32, List.length_map, take_map_len, cf0]
                                  conv => lhs; whnf
                                  rcases bif_or hm with ⟨hc33, hm⟩ | ⟨hc33, hm⟩
                                  · simp only [hc33, List.length_map, take_map_len, cf0]
                                    conv => lhs; whnf
                                    obtain rfl := Option.some.inj hm
                                    refine (hK12 _ _).trans ?_
                                    rw [show _ = some _ from hr14]
                                    conv => lhs; whnf
                                    try simp only [List.length_map, take_map_len]
                                    refine fin_eq (y := some (AV.bool (false), [])) rfl ?_
                                    first | rfl | (simp only [take_map_len, cf0] <;> rfl)
                                  · simp only [hc33, List.length_map, take_map_len, cf0]
                                    conv => lhs; whnf
                                    exact cont_eq (hcont13 (IntKind.i64.wrap (s7 + 1)) a9 hm) (by first | rfl | (simp only [List.length_map, List.map_append, List.map_cons, List.map_nil, take_map_len, List.append_nil, cf0] <;> rfl)) (by first | rfl | (simp only [List.length_map, List.map_append, List.map_cons, List.map_nil, take_map_len, List.append_nil, cf0] <;> rfl))
                              · simp only [hc26, List.length_map, take_map_len, cf0]
                                conv => lhs; whnf
                                obtain ⟨x34, hx34, hm⟩ := bind_some hm
                                refine bif_pos (by first | exact idx_in hx34 | exact idx_in' hx34) ?_
                                simp only [idx_nth (f := encE) hx34, List.length_map, take_map_len, cf0]
                                conv => lhs; whnf
                                obtain ⟨y35, hy35, hm⟩ := bind_some hm
                                have hk36 : call false 64 [AV.sl 2 (List.map encE (v0_b)), AV.int .i64 (x34.loc)] [] = some (AV.int .i64 (y35), []) := (hc _ _ _).trans (ok_ref08_count n v0_b x34.loc y35 hy35)
                                simp only [hk36, List.length_map, take_map_len, cf0]
                                conv => lhs; whnf
                                rcases bif_or hm with ⟨hc37, hm⟩ | ⟨hc37, hm⟩
                                · simp only [hc37, List.length_map, take_map_len, cf0]
                                  conv => lhs; whnf
                                  obtain rfl := Option.some.inj hm
                                  refine (hK12 _ _).trans ?_
                                  rw [show _ = some _ from hr14]
                                  conv => lhs; whnf
                                  try simp only [List.length_map, take_map_len]
                                  refine fin_eq (y := some (AV.bool (false), [])) rfl ?_
                                  first | rfl | (simp only [take_map_len, cf0] <;> rfl)
                                · simp only [hc37, List.length_map, take_map_len, cf0]
                                  conv => lhs; whnf
                                  exact cont_eq (hcont13 (IntKind.i64.wrap (s7 + 1)) a9 hm) (by first | rfl | (simp only [List.length_map, List.map_append, List.map_cons, List.map_nil, take_map_len, List.append_nil, cf0] <;> rfl)) (by first | rfl | (simp only [List.length_map, List.map_append, List.map_cons, List.map_nil, take_map_len, List.append_nil, cf0] <;> rfl))
                            · simp only [hc25, List.length_map, take_map_len, cf0]
                              conv => lhs; whnf
                              exact cont_eq (hcont13 (IntKind.i64.wrap (s7 + 1)) a9 hm) (by first | rfl | (simp only [List.length_map, List.map_append, List.map_cons, List.map_nil, take_map_len, List.append_nil, cf0] <;> rfl)) (by first | rfl | (simp only [List.length_map, List.map_append, List.map_cons, List.map_nil, take_map_len, List.append_nil, cf0] <;> rfl))
                  · simp only [hc16, List.length_map, take_map_len, cf0]
                    conv => lhs; whnf
                    obtain rfl := Option.some.inj hm
                    exact kont_eq (hr14 a9) (by first | rfl | (simp only [List.length_map, List.map_append, List.map_cons, List.map_nil, take_map_len, List.append_nil, cf0] <;> rfl)) (by first | rfl | (simp only [List.length_map, List.map_append, List.map_cons, List.map_nil, take_map_len, List.append_nil, cf0] <;> rfl))
                · cases o15 with
                  | ret v =>
                    obtain rfl := Option.some.inj hm
                    rfl
                  | out t =>
                    intro a38
                    dsimp only at hm
                    conv => lhs; whnf
                    rcases bif_or hm with ⟨hc39, hm⟩ | ⟨hc39, hm⟩
                    · simp only [hc39, List.length_map, take_map_len, cf0]
                      conv => lhs; whnf
                      rcases bif_or hm with ⟨hc40, hm⟩ | ⟨hc40, hm⟩
                      · simp only [hc40, List.length_map, take_map_len, cf0]
                        conv => lhs; whnf
                        obtain rfl := Option.some.inj hm
                        try simp only [List.length_map, take_map_len]
                        refine fin_eq (y := some (AV.bool (true), [])) rfl ?_
                        first | rfl | (simp only [take_map_len, cf0] <;> rfl)
                      · simp only [hc40, List.length_map, take_map_len, cf0]
                        conv => lhs; whnf
                        rcases bif_or hm with ⟨hc41, hm⟩ | ⟨hc41, hm⟩
                        · simp only [hc41, List.length_map, take_map_len, cf0]
                          conv => lhs; whnf
                          obtain rfl := Option.some.inj hm
                          try simp only [List.length_map, take_map_len]
                          refine fin_eq (y := some (AV.bool (true), [])) rfl ?_
                          first | rfl | (simp only [take_map_len, cf0] <;> rfl)
                        · simp only [hc41, List.length_map, take_map_len, cf0]
                          conv => lhs; whnf
                          obtain rfl := Option.some.inj hm
                          try simp only [List.length_map, take_map_len]
                          refine fin_eq (y := some (AV.bool (((((v0_b).length : Nat) : Int) == 0)), [])) rfl ?_
                          first | rfl | (simp only [take_map_len, cf0] <;> rfl)
                    · simp only [hc39, List.length_map, take_map_len, cf0]
                      conv => lhs; whnf
                      obtain rfl := Option.some.inj hm
                      try simp only [List.length_map, take_map_len]
                      refine fin_eq (y := some (AV.bool (((((v0_b).length : Nat) : Int) == 0)), [])) rfl ?_
                      first | rfl | (simp only [take_map_len, cf0] <;> rfl)

def m_bound_of : Nat → Int → Option S_bound_number_int64_
  | 0, _ => none
  | n+1, v0_n => (some (⟨(if 1125899906842624 < v0_n then 1125899906842624 else v0_n)⟩ : S_bound_number_int64_))
set_option maxHeartbeats 4000000 in
theorem ok_bound_of (n : Nat) : ∀ (v0_n : Int) (r : S_bound_number_int64_), m_bound_of n v0_n = some r → callN Try.prog HH XT n 56 [AV.int .i64 (v0_n)] [] = some (AV.agg (c_bound_number_int64_ (r)), []) := by
  cases n with
  | zero => intro v0_n r hm; exact absurd hm (by intro h; cases h)
  | succ n =>
    intro v0_n r hm
    rw [m_bound_of] at hm
    refine callN_eq' Try.func56 (by rfl) rfl rfl (Nat.le_of_ble_eq_true rfl) ?_
    intro call hc
    conv => lhs; whnf
    obtain rfl := Option.some.inj hm
    try simp only [List.length_map, take_map_len]
    refine fin_eq (y := some (AV.agg [AV.int .i64 ((if 1125899906842624 < v0_n then 1125899906842624 else v0_n))], [])) rfl ?_
    first | rfl | (simp only [take_map_len] <;> rfl)

def m_bound_number_int64_times : Nat → S_bound_number_int64_ → S_bound_number_int64_ → Option S_bound_number_int64_
  | 0, _, _ => none
  | n+1, v0_a, v1_b => (bif (v0_a.f_n != 0) then (bif decide (v0_a.f_n = 0) then none else (bif decide ((IntKind.i64.wrap (Int.tdiv 1125899906842624 v0_a.f_n)) < v1_b.f_n) then (some (⟨1125899906842624⟩ : S_bound_number_int64_)) else (some (⟨IntKind.i64.wrap (v0_a.f_n * v1_b.f_n)⟩ : S_bound_number_int64_)))) else (some (⟨IntKind.i64.wrap (v0_a.f_n * v1_b.f_n)⟩ : S_bound_number_int64_)))
set_option maxHeartbeats 4000000 in
theorem ok_bound_number_int64_times (n : Nat) : ∀ (v0_a : S_bound_number_int64_) (v1_b : S_bound_number_int64_) (r : S_bound_number_int64_), m_bound_number_int64_times n v0_a v1_b = some r → callN Try.prog HH XT n 57 [AV.agg (c_bound_number_int64_ (v0_a)), AV.agg (c_bound_number_int64_ (v1_b))] [] = some (AV.agg (c_bound_number_int64_ (r)), []) := by
  cases n with
  | zero => intro v0_a v1_b r hm; exact absurd hm (by intro h; cases h)
  | succ n =>
    intro v0_a v1_b r hm
    rw [m_bound_number_int64_times] at hm
    refine callN_eq' Try.func57 (by rfl) rfl rfl (Nat.le_of_ble_eq_true rfl) ?_
    intro call hc
    conv => lhs; whnf
    rcases bif_or hm with ⟨hc1, hm⟩ | ⟨hc1, hm⟩
    · simp only [hc1, List.length_map, take_map_len]
      conv => lhs; whnf
      rcases bif_or hm with ⟨hc2, hm⟩ | ⟨hc2, hm⟩
      · cases hm
      · simp only [hc2, List.length_map, take_map_len]
        conv => lhs; whnf
        rcases bif_or hm with ⟨hc3, hm⟩ | ⟨hc3, hm⟩
        · simp only [hc3, List.length_map, take_map_len]
          conv => lhs; whnf
          obtain rfl := Option.some.inj hm
          try simp only [List.length_map, take_map_len]
          refine fin_eq (y := some (AV.agg [AV.int .i64 (1125899906842624)], [])) rfl ?_
          first | rfl | (simp only [take_map_len] <;> rfl)
        · simp only [hc3, List.length_map, take_map_len]
          conv => lhs; whnf
          obtain rfl := Option.some.inj hm
          try simp only [List.length_map, take_map_len]
          refine fin_eq (y := some (AV.agg [AV.int .i64 (IntKind.i64.wrap (v0_a.f_n * v1_b.f_n))], [])) rfl ?_
          first | rfl | (simp only [take_map_len] <;> rfl)
    · simp only [hc1, List.length_map, take_map_len]
      conv => lhs; whnf
      obtain rfl := Option.some.inj hm
      try simp only [List.length_map, take_map_len]
      refine fin_eq (y := some (AV.agg [AV.int .i64 (IntKind.i64.wrap (v0_a.f_n * v1_b.f_n))], [])) rfl ?_
      first | rfl | (simp only [take_map_len] <;> rfl)

def m_bound_number_int64_plus : Nat → S_bound_number_int64_ → S_bound_number_int64_ → Option S_bound_number_int64_
  | 0, _, _ => none
  | n+1, v0_a, v1_b => (some (⟨(if 1125899906842624 < (IntKind.i64.wrap (v0_a.f_n + v1_b.f_n)) then 1125899906842624 else (IntKind.i64.wrap (v0_a.f_n + v1_b.f_n)))⟩ : S_bound_number_int64_))
set_option maxHeartbeats 4000000 in
theorem ok_bound_number_int64_plus (n : Nat) : ∀ (v0_a : S_bound_number_int64_) (v1_b : S_bound_number_int64_) (r : S_bound_number_int64_), m_bound_number_int64_plus n v0_a v1_b = some r → callN Try.prog HH XT n 90 [AV.agg (c_bound_number_int64_ (v0_a)), AV.agg (c_bound_number_int64_ (v1_b))] [] = some (AV.agg (c_bound_number_int64_ (r)), []) := by
  cases n with
  | zero => intro v0_a v1_b r hm; exact absurd hm (by intro h; cases h)
  | succ n =>
    intro v0_a v1_b r hm
    rw [m_bound_number_int64_plus] at hm
    refine callN_eq' Try.func90 (by rfl) rfl rfl (Nat.le_of_ble_eq_true rfl) ?_
    intro call hc
    conv => lhs; whnf
    obtain rfl := Option.some.inj hm
    try simp only [List.length_map, take_map_len]
    refine fin_eq (y := some (AV.agg [AV.int .i64 ((if 1125899906842624 < (IntKind.i64.wrap (v0_a.f_n + v1_b.f_n)) then 1125899906842624 else (IntKind.i64.wrap (v0_a.f_n + v1_b.f_n))))], [])) rfl ?_
    first | rfl | (simp only [take_map_len] <;> rfl)

def bound_power_L0 (n : Nat)  : Nat → Int → Int → Int → Option (LR (Int × Int) S_bound_number_int64_)
  | 0, _, _, _ => none
  | k6+1, s3, s4, s5 => (bif decide (0 < s3) then (bif ((Int.tmod s3 2) == 1) then ((m_bound_number_int64_times n (⟨s5⟩ : S_bound_number_int64_) (⟨s4⟩ : S_bound_number_int64_)).bind fun y16 => ((m_bound_number_int64_times n (⟨s4⟩ : S_bound_number_int64_) (⟨s4⟩ : S_bound_number_int64_)).bind fun y18 => (bound_power_L0 n k6 (IntKind.i64.wrap (Int.tdiv s3 2)) y18.f_n y16.f_n))) else ((m_bound_number_int64_times n (⟨s4⟩ : S_bound_number_int64_) (⟨s4⟩ : S_bound_number_int64_)).bind fun y20 => (bound_power_L0 n k6 (IntKind.i64.wrap (Int.tdiv s3 2)) y20.f_n s5))) else (some (.out (s4, s5))))
def m_bound_power : Nat → S_bound_number_int64_ → Int → Option S_bound_number_int64_
  | 0, _, _ => none
  | n+1, v0_a, v1_n => ((m_bound_of n 1).bind fun y1 => ((bound_power_L0 n n v1_n v0_a.f_n y1.f_n).bind fun o13 => match o13 with | .out (x23, x24) => (some (⟨x24⟩ : S_bound_number_int64_)) | .ret v => some v))
set_option maxHeartbeats 4000000 in
theorem ok_bound_power (n : Nat) : ∀ (v0_a : S_bound_number_int64_) (v1_n : Int) (r : S_bound_number_int64_), m_bound_power n v0_a v1_n = some r → callN Try.prog HH XT n 55 [AV.agg (c_bound_number_int64_ (v0_a)), AV.int .i64 (v1_n)] [] = some (AV.agg (c_bound_number_int64_ (r)), []) := by
  cases n with
  | zero => intro v0_a v1_n r hm; exact absurd hm (by intro h; cases h)
  | succ n =>
    intro v0_a v1_n r hm
    rw [m_bound_power] at hm
    refine callN_eq' Try.func55 (by rfl) rfl rfl (Nat.le_of_ble_eq_true rfl) ?_
    intro call hc
    conv => lhs; whnf
    obtain ⟨y1, hy1, hm⟩ := bind_some hm
    have hk2 : call false 56 [AV.int .i64 (1)] [] = some (AV.agg (c_bound_number_int64_ (y1)), []) := (hc _ _ _).trans (ok_bound_of n 1 y1 hy1)
    simp only [hk2, List.length_map, take_map_len]
    conv => lhs; whnf
    obtain ⟨o13, ho13, hm⟩ := bind_some hm
    refine rounds_sim (σ := (Int × Int × Int)) (τ := (Int × Int)) (ν := S_bound_number_int64_) 0 (fun (s3, s4, s5) a7 => stOf 21 [(1, AV.int .i64 (s3)), (2, AV.ptr 0 0), (4, AV.ptr 1 0), (5, AV.ptr 2 0)]) (fun (s3, s4, s5) => [Ob.var 83 [AV.int .i64 (s4)], Ob.var 83 [AV.int .i64 (0)], Ob.var 83 [AV.int .i64 (s5)]]) (fun (x23, x24) a22 => stOf 21 [(4, AV.ptr 1 0), (5, AV.ptr 2 0)]) (fun (x23, x24) => [Ob.var 83 [AV.int .i64 (x23)], Ob.var 83 [AV.int .i64 (0)], Ob.var 83 [AV.int .i64 (x24)]]) (fun v => (AV.agg (c_bound_number_int64_ (v)), [])) (fun k s => bound_power_L0 n k ((s).1) ((s).2.1) ((s).2.2)) (fun s => rfl) o13 ?_ n (v1_n, v0_a.f_n, y1.f_n) (fun _ => AV.junk) _ _ ho13 ?_ (by first | rfl | (simp only [List.length_map, List.map_append, List.map_cons, List.map_nil, take_map_len, List.append_nil] <;> rfl)) (by first | rfl | (simp only [List.length_map, List.map_append, List.map_cons, List.map_nil, take_map_len, List.append_nil] <;> rfl))
    · intro k6 ss a7 K8 cont9 hK10 hcont11 hm hr12
      obtain ⟨s3, s4, s5⟩ := ss
      replace hm : bound_power_L0 n (k6 + 1) s3 s4 s5 = some o13 := hm
      rw [bound_power_L0] at hm
      conv => lhs; whnf
      rcases bif_or hm with ⟨hc14, hm⟩ | ⟨hc14, hm⟩
      · simp only [hc14, List.length_map, take_map_len]
        conv => lhs; whnf
        rcases bif_or hm with ⟨hc15, hm⟩ | ⟨hc15, hm⟩
        · simp only [hc15, List.length_map, take_map_len]
          conv => lhs; whnf
          obtain ⟨y16, hy16, hm⟩ := bind_some hm
          have hk17 : call false 57 [AV.agg [AV.int .i64 (s5)], AV.agg [AV.int .i64 (s4)]] [] = some (AV.agg (c_bound_number_int64_ (y16)), []) := (hc _ _ _).trans (ok_bound_number_int64_times n (⟨s5⟩ : S_bound_number_int64_) (⟨s4⟩ : S_bound_number_int64_) y16 hy16)
          simp only [hk17, List.length_map, take_map_len]
          conv => lhs; whnf
          obtain ⟨y18, hy18, hm⟩ := bind_some hm
          have hk19 : call false 57 [AV.agg [AV.int .i64 (s4)], AV.agg [AV.int .i64 (s4)]] [] = some (AV.agg (c_bound_number_int64_ (y18)), []) := (hc _ _ _).trans (ok_bound_number_int64_times n (⟨s4⟩ : S_bound_number_int64_) (⟨s4⟩ : S_bound_number_int64_) y18 hy18)
          simp only [hk19, List.length_map, take_map_len]
          conv => lhs; whnf
          exact cont_eq (hcont11 (IntKind.i64.wrap (Int.tdiv s3 2), y18.f_n, y16.f_n) a7 hm) (by first | rfl | (simp only [List.length_map, List.map_append, List.map_cons, List.map_nil, take_map_len, List.append_nil] <;> rfl)) (by first | rfl | (simp only [List.length_map, List.map_append, List.map_cons, List.map_nil, take_map_len, List.append_nil] <;> rfl))
        · simp only [hc15, List.length_map, take_map_len]
          conv => lhs; whnf
          obtain ⟨y20, hy20, hm⟩ := bind_some hm
          have hk21 : call false 57 [AV.agg [AV.int .i64 (s4)], AV.agg [AV.int .i64 (s4)]] [] = some (AV.agg (c_bound_number_int64_ (y20)), []) := (hc _ _ _).trans (ok_bound_number_int64_times n (⟨s4⟩ : S_bound_number_int64_) (⟨s4⟩ : S_bound_number_int64_) y20 hy20)
          simp only [hk21, List.length_map, take_map_len]
          conv => lhs; whnf
          exact cont_eq (hcont11 (IntKind.i64.wrap (Int.tdiv s3 2), y20.f_n, s5) a7 hm) (by first | rfl | (simp only [List.length_map, List.map_append, List.map_cons, List.map_nil, take_map_len, List.append_nil] <;> rfl)) (by first | rfl | (simp only [List.length_map, List.map_append, List.map_cons, List.map_nil, take_map_len, List.append_nil] <;> rfl))
      · simp only [hc14, List.length_map, take_map_len]
        conv => lhs; whnf
        obtain rfl := Option.some.inj hm
        exact kont_eq (hr12 a7) (by first | rfl | (simp only [List.length_map, List.map_append, List.map_cons, List.map_nil, take_map_len, List.append_nil] <;> rfl)) (by first | rfl | (simp only [List.length_map, List.map_append, List.map_cons, List.map_nil, take_map_len, List.append_nil] <;> rfl))
    · cases o13 with
      | ret v =>
        obtain rfl := Option.some.inj hm
        rfl
      | out t =>
        obtain ⟨x23, x24⟩ := t
        intro a22
        dsimp only at hm
        conv => lhs; whnf
        obtain rfl := Option.some.inj hm
        try simp only [List.length_map, take_map_len]
        refine fin_eq (y := some (AV.agg [AV.int .i64 (x24)], [])) rfl ?_
        first | rfl | (simp only [take_map_len] <;> rfl)

def bound_sum_L0 (n : Nat)  (v0_a : Int) (v1_n : Int) : Nat → Int → Int → Option (LR Int S_bound_number_int64_)
  | 0, _, _ => none
  | k5+1, s3, s4 => (bif decide (s3 < (IntKind.i64.wrap (v1_n + 1))) then ((m_bound_of n v0_a).bind fun y14 => ((m_bound_power n y14 s3).bind fun y16 => ((m_bound_number_int64_plus n (⟨s4⟩ : S_bound_number_int64_) y16).bind fun y18 => (bound_sum_L0 n v0_a v1_n k5 (IntKind.i64.wrap (s3 + 1)) y18.f_n)))) else (some (.out s4)))
def m_bound_sum : Nat → Int → Int → Option S_bound_number_int64_
  | 0, _, _ => none
  | n+1, v0_a, v1_n => ((m_bound_of n 0).bind fun y1 => ((bound_sum_L0 n v0_a v1_n n 0 y1.f_n).bind fun o12 => match o12 with | .out x21 => (some (⟨x21⟩ : S_bound_number_int64_)) | .ret v => some v))
set_option maxHeartbeats 4000000 in
theorem ok_bound_sum (n : Nat) : ∀ (v0_a : Int) (v1_n : Int) (r : S_bound_number_int64_), m_bound_sum n v0_a v1_n = some r → callN Try.prog HH XT n 62 [AV.int .i64 (v0_a), AV.int .i64 (v1_n)] [] = some (AV.agg (c_bound_number_int64_ (r)), []) := by
  cases n with
  | zero => intro v0_a v1_n r hm; exact absurd hm (by intro h; cases h)
  | succ n =>
    intro v0_a v1_n r hm
    rw [m_bound_sum] at hm
    refine callN_eq' Try.func62 (by rfl) rfl rfl (Nat.le_of_ble_eq_true rfl) ?_
    intro call hc
    conv => lhs; whnf
    obtain ⟨y1, hy1, hm⟩ := bind_some hm
    have hk2 : call false 56 [AV.int .i64 (0)] [] = some (AV.agg (c_bound_number_int64_ (y1)), []) := (hc _ _ _).trans (ok_bound_of n 0 y1 hy1)
    simp only [hk2, List.length_map, take_map_len]
    conv => lhs; whnf
    obtain ⟨o12, ho12, hm⟩ := bind_some hm
    refine rounds_sim (σ := (Int × Int)) (τ := Int) (ν := S_bound_number_int64_) 0 (fun (s3, s4) a6 => stOf 21 [(0, AV.int .i64 (v0_a)), (4, AV.ptr 0 0), (5, AV.ptr 1 0), (9, AV.int .i64 (IntKind.i64.wrap (v1_n + 1))), (10, AV.int .i64 (s3))]) (fun (s3, s4) => [Ob.var 83 [AV.int .i64 (0)], Ob.var 83 [AV.int .i64 (s4)]]) (fun x21 a20 => stOf 21 [(4, AV.ptr 0 0), (5, AV.ptr 1 0)]) (fun x21 => [Ob.var 83 [AV.int .i64 (0)], Ob.var 83 [AV.int .i64 (x21)]]) (fun v => (AV.agg (c_bound_number_int64_ (v)), [])) (fun k s => bound_sum_L0 n v0_a v1_n k ((s).1) ((s).2)) (fun s => rfl) o12 ?_ n (0, y1.f_n) (fun _ => AV.junk) _ _ ho12 ?_ (by first | rfl | (simp only [List.length_map, List.map_append, List.map_cons, List.map_nil, take_map_len, List.append_nil] <;> rfl)) (by first | rfl | (simp only [List.length_map, List.map_append, List.map_cons, List.map_nil, take_map_len, List.append_nil] <;> rfl))
    · intro k5 ss a6 K7 cont8 hK9 hcont10 hm hr11
      obtain ⟨s3, s4⟩ := ss
      replace hm : bound_sum_L0 n v0_a v1_n (k5 + 1) s3 s4 = some o12 := hm
      rw [bound_sum_L0] at hm
      conv => lhs; whnf
      rcases bif_or hm with ⟨hc13, hm⟩ | ⟨hc13, hm⟩
      · simp only [hc13, List.length_map, take_map_len]
        conv => lhs; whnf
        obtain ⟨y14, hy14, hm⟩ := bind_some hm
        have hk15 : call false 56 [AV.int .i64 (v0_a)] [] = some (AV.agg (c_bound_number_int64_ (y14)), []) := (hc _ _ _).trans (ok_bound_of n v0_a y14 hy14)
        simp only [hk15, List.length_map, take_map_len]
        conv => lhs; whnf
        obtain ⟨y16, hy16, hm⟩ := bind_some hm
        have hk17 : call false 55 [AV.agg [AV.int .i64 (y14.f_n)], AV.int .i64 (s3)] [] = some (AV.agg (c_bound_number_int64_ (y16)), []) := (hc _ _ _).trans (ok_bound_power n y14 s3 y16 hy16)
        simp only [hk17, List.length_map, take_map_len]
        conv => lhs; whnf
        obtain ⟨y18, hy18, hm⟩ := bind_some hm
        have hk19 : call false 90 [AV.agg [AV.int .i64 (s4)], AV.agg [AV.int .i64 (y16.f_n)]] [] = some (AV.agg (c_bound_number_int64_ (y18)), []) := (hc _ _ _).trans (ok_bound_number_int64_plus n (⟨s4⟩ : S_bound_number_int64_) y16 y18 hy18)
        simp only [hk19, List.length_map, take_map_len]
        conv => lhs; whnf
        exact cont_eq (hcont10 (IntKind.i64.wrap (s3 + 1), y18.f_n) a6 hm) (by first | rfl | (simp only [List.length_map, List.map_append, List.map_cons, List.map_nil, take_map_len, List.append_nil] <;> rfl)) (by first | rfl | (simp only [List.length_map, List.map_append, List.map_cons, List.map_nil, take_map_len, List.append_nil] <;> rfl))
      · simp only [hc13, List.length_map, take_map_len]
        conv => lhs; whnf
        obtain rfl := Option.some.inj hm
        exact kont_eq (hr11 a6) (by first | rfl | (simp only [List.length_map, List.map_append, List.map_cons, List.map_nil, take_map_len, List.append_nil] <;> rfl)) (by first | rfl | (simp only [List.length_map, List.map_append, List.map_cons, List.map_nil, take_map_len, List.append_nil] <;> rfl))
    · cases o12 with
      | ret v =>
        obtain rfl := Option.some.inj hm
        rfl
      | out t =>
        obtain ⟨x21, rfl⟩ : ∃ x, x = t := ⟨_, rfl⟩
        intro a20
        dsimp only at hm
        conv => lhs; whnf
        obtain rfl := Option.some.inj hm
        try simp only [List.length_map, take_map_len]
        refine fin_eq (y := some (AV.agg [AV.int .i64 (x21)], [])) rfl ?_
        first | rfl | (simp only [take_map_len] <;> rfl)

def m_bound_Buffers : Nat → Int → Int → Int → Int → Option Int
  | 0, _, _, _, _ => none
  | n+1, v0_locs, v1_mod, v2_model, v3_room => (bif decide (v0_locs < 0) then (some 0) else (bif decide (6 < v0_locs) then (some 0) else (bif decide (v1_mod < 2) then (some 0) else (bif decide (16 < v1_mod) then (some 0) else (bif decide (v3_room < 1) then (some 0) else (bif decide (4 < v3_room) then (some 0) else (bif (v2_model == 1) then (some 1) else (bif (v2_model == 2) then ((m_bound_sum n (IntKind.i64.wrap (v0_locs * v1_mod)) v3_room).bind fun y9 => (some y9.f_n)) else (bif (v2_model == 3) then ((m_bound_sum n v1_mod v3_room).bind fun y12 => ((m_bound_power n y12 v0_locs).bind fun y14 => (some y14.f_n))) else (some 0))))))))))
set_option maxHeartbeats 4000000 in
theorem ok_bound_Buffers (n : Nat) : ∀ (v0_locs : Int) (v1_mod : Int) (v2_model : Int) (v3_room : Int) (r : Int), m_bound_Buffers n v0_locs v1_mod v2_model v3_room = some r → callN Try.prog HH XT n 26 [AV.int .i64 (v0_locs), AV.int .i64 (v1_mod), AV.int .i64 (v2_model), AV.int .i64 (v3_room)] [] = some (AV.int .i64 (r), []) := by
  cases n with
  | zero => intro v0_locs v1_mod v2_model v3_room r hm; exact absurd hm (by intro h; cases h)
  | succ n =>
    intro v0_locs v1_mod v2_model v3_room r hm
    rw [m_bound_Buffers] at hm
    refine callN_eq' Try.func26 (by rfl) rfl rfl (Nat.le_of_ble_eq_true rfl) ?_
    intro call hc
    conv => lhs; whnf
    rcases bif_or hm with ⟨hc1, hm⟩ | ⟨hc1, hm⟩
    · simp only [hc1, List.length_map, take_map_len]
      conv => lhs; whnf
      obtain rfl := Option.some.inj hm
      try simp only [List.length_map, take_map_len]
      refine fin_eq (y := some (AV.int .i64 (0), [])) rfl ?_
      first | rfl | (simp only [take_map_len] <;> rfl)
    · simp only [hc1, List.length_map, take_map_len]
      conv => lhs; whnf
      rcases bif_or hm with ⟨hc2, hm⟩ | ⟨hc2, hm⟩
      · simp only [hc2, List.length_map, take_map_len]
        conv => lhs; whnf
        obtain rfl := Option.some.inj hm
        try simp only [List.length_map, take_map_len]
        refine fin_eq (y := some (AV.int .i64 (0), [])) rfl ?_
        first | rfl | (simp only [take_map_len] <;> rfl)
      · simp only [hc2, List.length_map, take_map_len]
        conv => lhs; whnf
        rcases bif_or hm with ⟨hc3, hm⟩ | ⟨hc3, hm⟩
        · simp only [hc3, List.length_map, take_map_len]
          conv => lhs; whnf
          obtain rfl := Option.some.inj hm
          try simp only [List.length_map, take_map_len]
          refine fin_eq (y := some (AV.int .i64 (0), [])) rfl ?_
          first | rfl | (simp only [take_map_len] <;> rfl)
        · simp only [hc3, List.length_map, take_map_len]
          conv => lhs; whnf
          rcases bif_or hm with ⟨hc4, hm⟩ | ⟨hc4, hm⟩
          · simp only [hc4, List.length_map, take_map_len]
            conv => lhs; whnf
            obtain rfl := Option.some.inj hm
            try simp only [List.length_map, take_map_len]
            refine fin_eq (y := some (AV.int .i64 (0), [])) rfl ?_
            first | rfl | (simp only [take_map_len] <;> rfl)
          · simp only [hc4, List.length_map, take_map_len]
            conv => lhs; whnf
            rcases bif_or hm with ⟨hc5, hm⟩ | ⟨hc5, hm⟩
            · simp only [hc5, List.length_map, take_map_len]
              conv => lhs; whnf
              obtain rfl := Option.some.inj hm
              try simp only [List.length_map, take_map_len]
              refine fin_eq (y := some (AV.int .i64 (0), [])) rfl ?_
              first | rfl | (simp only [take_map_len] <;> rfl)
            · simp only [hc5, List.length_map, take_map_len]
              conv => lhs; whnf
              rcases bif_or hm with ⟨hc6, hm⟩ | ⟨hc6, hm⟩
              · simp only [hc6, List.length_map, take_map_len]
                conv => lhs; whnf
                obtain rfl := Option.some.inj hm
                try simp only [List.length_map, take_map_len]
                refine fin_eq (y := some (AV.int .i64 (0), [])) rfl ?_
                first | rfl | (simp only [take_map_len] <;> rfl)
              · simp only [hc6, List.length_map, take_map_len]
                conv => lhs; whnf
                rcases bif_or hm with ⟨hc7, hm⟩ | ⟨hc7, hm⟩
                · simp only [hc7, List.length_map, take_map_len]
                  conv => lhs; whnf
                  obtain rfl := Option.some.inj hm
                  try simp only [List.length_map, take_map_len]
                  refine fin_eq (y := some (AV.int .i64 (1), [])) rfl ?_
                  first | rfl | (simp only [take_map_len] <;> rfl)
                · simp only [hc7, List.length_map, take_map_len]
                  conv => lhs; whnf
                  rcases bif_or hm with ⟨hc8, hm⟩ | ⟨hc8, hm⟩
                  · simp only [hc8, List.length_map, take_map_len]
                    conv => lhs; whnf
                    obtain ⟨y9, hy9, hm⟩ := bind_some hm
                    have hk10 : call false 62 [AV.int .i64 (IntKind.i64.wrap (v0_locs * v1_mod)), AV.int .i64 (v3_room)] [] = some (AV.agg (c_bound_number_int64_ (y9)), []) := (hc _ _ _).trans (ok_bound_sum n (IntKind.i64.wrap (v0_locs * v1_mod)) v3_room y9 hy9)
                    simp only [hk10, List.length_map, take_map_len]
                    conv => lhs; whnf
                    obtain rfl := Option.some.inj hm
                    try simp only [List.length_map, take_map_len]
                    refine fin_eq (y := some (AV.int .i64 (y9.f_n), [])) rfl ?_
                    first | rfl | (simp only [take_map_len] <;> rfl)
                  · simp only [hc8, List.length_map, take_map_len]
                    conv => lhs; whnf
                    rcases bif_or hm with ⟨hc11, hm⟩ | ⟨hc11, hm⟩
                    · simp only [hc11, List.length_map, take_map_len]
                      conv => lhs; whnf
                      obtain ⟨y12, hy12, hm⟩ := bind_some hm
                      have hk13 : call false 62 [AV.int .i64 (v1_mod), AV.int .i64 (v3_room)] [] = some (AV.agg (c_bound_number_int64_ (y12)), []) := (hc _ _ _).trans (ok_bound_sum n v1_mod v3_room y12 hy12)
                      simp only [hk13, List.length_map, take_map_len]
                      conv => lhs; whnf
                      obtain ⟨y14, hy14, hm⟩ := bind_some hm
                      have hk15 : call false 55 [AV.agg [AV.int .i64 (y12.f_n)], AV.int .i64 (v0_locs)] [] = some (AV.agg (c_bound_number_int64_ (y14)), []) := (hc _ _ _).trans (ok_bound_power n y12 v0_locs y14 hy14)
                      simp only [hk15, List.length_map, take_map_len]
                      conv => lhs; whnf
                      obtain rfl := Option.some.inj hm
                      try simp only [List.length_map, take_map_len]
                      refine fin_eq (y := some (AV.int .i64 (y14.f_n), [])) rfl ?_
                      first | rfl | (simp only [take_map_len] <;> rfl)
                    · simp only [hc11, List.length_map, take_map_len]
                      conv => lhs; whnf
                      obtain rfl := Option.some.inj hm
                      try simp only [List.length_map, take_map_len]
                      refine fin_eq (y := some (AV.int .i64 (0), [])) rfl ?_
                      first | rfl | (simp only [take_map_len] <;> rfl)

def law22_BoundBuffers_L1 (n : Nat)  (v0_locs : Int) (s2 : Int) : Nat → Int → (List (List EntryS)) → Option (LR (List (List EntryS)) Bool)
  | 0, _, _ => none
  | k19+1, s17, s18 => (bif decide (s17 < (IntKind.i64.wrap (2 * (Int.tmod (IntKind.i64.wrap (v0_locs)) 3)))) then ((idx s18 s2).bind fun x28 => (bif decide ((((x28).length : Nat) : Int) < 4) then ((idx s18 s2).bind fun x30 => (bif decide (((([] : List EntryS)).length + (x30).length) * 17 ≤ 140737488355328) then (bif decide ((((([] : List EntryS) ++ x30)).length + 1) * 17 ≤ 140737488355328) then (bif decide (((s18).length + 1) * 25 ≤ 140737488355328) then (law22_BoundBuffers_L1 n v0_locs s2 k19 (IntKind.i64.wrap (s17 + 1)) (s18 ++ ([((([] : List EntryS) ++ x30) ++ ([(⟨IntKind.i64.wrap (Int.tdiv s17 2), (Int.tmod s17 2)⟩ : EntryS)] : List EntryS))] : List (List EntryS)))) else none) else none) else none)) else (some (.out s18)))) else (some (.out s18)))
def law22_BoundBuffers_L2 (n : Nat)  (v0_locs : Int) (s2 : Int) : Nat → Int → (List (List EntryS)) → Option (LR (List (List EntryS)) Bool)
  | 0, _, _ => none
  | k45+1, s43, s44 => (bif decide (s43 < (IntKind.i64.wrap (2 * (Int.tmod (IntKind.i64.wrap (v0_locs)) 3)))) then ((idx s44 s2).bind fun x54 => (bif decide ((((x54).length : Nat) : Int) < 4) then ((idx s44 s2).bind fun x56 => (bif decide (((([] : List EntryS)).length + (x56).length) * 17 ≤ 140737488355328) then (bif decide ((((([] : List EntryS) ++ x56)).length + 1) * 17 ≤ 140737488355328) then (bif decide (((s44).length + 1) * 25 ≤ 140737488355328) then (law22_BoundBuffers_L2 n v0_locs s2 k45 (IntKind.i64.wrap (s43 + 1)) (s44 ++ ([((([] : List EntryS) ++ x56) ++ ([(⟨IntKind.i64.wrap (Int.tdiv s43 2), (Int.tmod s43 2)⟩ : EntryS)] : List EntryS))] : List (List EntryS)))) else none) else none) else none)) else (some (.out s44)))) else (some (.out s44)))
def law22_BoundBuffers_L0 (n : Nat)  (v0_locs : Int) (v1_model : Int) (v2_room : Int) : Nat → Int → Int → (List (List EntryS)) → Option (LR (Int × (List (List EntryS))) Bool)
  | 0, _, _, _ => none
  | k4+1, s1, s2, s3 => (bif decide (s2 < (((s3).length : Nat) : Int)) then ((idx s3 s2).bind fun x13 => ((m_ref08_Right n x13 (IntKind.i64.wrap (1 + (Int.tmod (IntKind.i64.wrap (v1_model)) 3))) (IntKind.i64.wrap (1 + (Int.tmod (IntKind.i64.wrap (v2_room)) 2))) 2 (Int.tmod (IntKind.i64.wrap (v0_locs)) 3)).bind fun y14 => (bif y14 then ((law22_BoundBuffers_L1 n v0_locs s2 n 0 s3).bind fun o26 => match o26 with | .out x41 => (law22_BoundBuffers_L0 n v0_locs v1_model v2_room k4 (IntKind.i64.wrap (s1 + 1)) (IntKind.i64.wrap (s2 + 1)) x41) | .ret v => some (.ret v)) else ((law22_BoundBuffers_L2 n v0_locs s2 n 0 s3).bind fun o52 => match o52 with | .out x67 => (law22_BoundBuffers_L0 n v0_locs v1_model v2_room k4 s1 (IntKind.i64.wrap (s2 + 1)) x67) | .ret v => some (.ret v))))) else (some (.out (s1, s3))))
def m_law22_BoundBuffers : Nat → Int → Int → Int → Option Bool
  | 0, _, _, _ => none
  | n+1, v0_locs, v1_model, v2_room => ((law22_BoundBuffers_L0 n v0_locs v1_model v2_room n 0 0 ([([] : List EntryS)] : List (List EntryS))).bind fun o11 => match o11 with | .out (x70, x71) => ((m_bound_Buffers n (Int.tmod (IntKind.i64.wrap (v0_locs)) 3) 2 (IntKind.i64.wrap (1 + (Int.tmod (IntKind.i64.wrap (v1_model)) 3))) (IntKind.i64.wrap (1 + (Int.tmod (IntKind.i64.wrap (v2_room)) 2)))).bind fun y72 => (bif (y72 == x70) then ((m_law22_known n ).bind fun y75 => (some y75)) else (some false))) | .ret v => some v)
set_option maxHeartbeats 4000000 in
theorem ok_law22_BoundBuffers (n : Nat) : ∀ (v0_locs : Int) (v1_model : Int) (v2_room : Int) (r : Bool), m_law22_BoundBuffers n v0_locs v1_model v2_room = some r → callN Try.prog HH XT n 5 [AV.int .u8 (v0_locs), AV.int .u8 (v1_model), AV.int .u8 (v2_room)] [] = some (AV.bool (r), []) := by
  cases n with
  | zero => intro v0_locs v1_model v2_room r hm; exact absurd hm (by intro h; cases h)
  | succ n =>
    intro v0_locs v1_model v2_room r hm
    have cf0 : Program.cellsOf Try.prog 40 = 1 := by kernel_rfl
    have cf1 : Program.cellsOf Try.prog 42 = 2 := by kernel_rfl
    rw [m_law22_BoundBuffers] at hm
    refine callN_eq' Try.func5 (by rfl) rfl rfl (Nat.le_of_ble_eq_true rfl) ?_
    intro call hc
    conv => lhs; whnf
    obtain ⟨o11, ho11, hm⟩ := bind_some hm
    refine rounds_sim (σ := (Int × Int × (List (List EntryS)))) (τ := (Int × (List (List EntryS)))) (ν := Bool) 0 (fun (s1, s2, s3) a5 => stOf 84 [(7, AV.int .i64 ((Int.tmod (IntKind.i64.wrap (v0_locs)) 3))), (8, AV.int .i64 (IntKind.i64.wrap (1 + (Int.tmod (IntKind.i64.wrap (v1_model)) 3)))), (9, AV.int .i64 (IntKind.i64.wrap (1 + (Int.tmod (IntKind.i64.wrap (v2_room)) 2)))), (10, AV.int .i64 (s1)), (11, AV.row 0 (List.length (s3))), (12, AV.int .i64 (s2))]) (fun (s1, s2, s3) => [Ob.row 40 1 (List.map encBuf (s3))]) (fun (x70, x71) a69 => stOf 84 [(7, AV.int .i64 ((Int.tmod (IntKind.i64.wrap (v0_locs)) 3))), (8, AV.int .i64 (IntKind.i64.wrap (1 + (Int.tmod (IntKind.i64.wrap (v1_model)) 3)))), (9, AV.int .i64 (IntKind.i64.wrap (1 + (Int.tmod (IntKind.i64.wrap (v2_room)) 2)))), (10, AV.int .i64 (x70))]) (fun (x70, x71) => [Ob.row 40 1 (List.map encBuf (x71))]) (fun v => (AV.bool (v), [])) (fun k s => law22_BoundBuffers_L0 n v0_locs v1_model v2_room k ((s).1) ((s).2.1) ((s).2.2)) (fun s => rfl) o11 ?_ n (0, 0, ([([] : List EntryS)] : List (List EntryS))) (fun _ => AV.junk) _ _ ho11 ?_ (by first | rfl | (simp only [List.length_map, List.map_append, List.map_cons, List.map_nil, take_map_len, List.append_nil, cf0, cf1] <;> rfl)) (by first | rfl | (simp only [List.length_map, List.map_append, List.map_cons, List.map_nil, take_map_len, List.append_nil, cf0, cf1] <;> rfl))
    · intro k4 ss a5 K6 cont7 hK8 hcont9 hm hr10
      obtain ⟨s1, s2, s3⟩ := ss
      replace hm : law22_BoundBuffers_L0 n v0_locs v1_model v2_room (k4 + 1) s1 s2 s3 = some o11 := hm
      rw [law22_BoundBuffers_L0] at hm
      conv => lhs; whnf
      rcases bif_or hm with ⟨hc12, hm⟩ | ⟨hc12, hm⟩
      · simp only [hc12, List.length_map, take_map_len, cf0, cf1]
        conv => lhs; whnf
        obtain ⟨x13, hx13, hm⟩ := bind_some hm
        refine bif_pos (by first | exact idx_in hx13 | exact idx_in' hx13) ?_
        simp only [idx_nth (f := encBuf) hx13, List.length_map, take_map_len, cf0, cf1]
        conv => lhs; whnf
        obtain ⟨y14, hy14, hm⟩ := bind_some hm
        have hk15 : call false 28 [AV.sl 2 (List.map encE (x13)), AV.int .i64 (IntKind.i64.wrap (1 + (Int.tmod (IntKind.i64.wrap (v1_model)) 3))), AV.int .i64 (IntKind.i64.wrap (1 + (Int.tmod (IntKind.i64.wrap (v2_room)) 2))), AV.int .i64 (2), AV.int .i64 ((Int.tmod (IntKind.i64.wrap (v0_locs)) 3))] [] = some (AV.bool (y14), []) := (hc _ _ _).trans (ok_ref08_Right n x13 (IntKind.i64.wrap (1 + (Int.tmod (IntKind.i64.wrap (v1_model)) 3))) (IntKind.i64.wrap (1 + (Int.tmod (IntKind.i64.wrap (v2_room)) 2))) 2 (Int.tmod (IntKind.i64.wrap (v0_locs)) 3) y14 hy14)
        simp only [hk15, List.length_map, take_map_len, cf0, cf1]
        conv => lhs; whnf
        rcases bif_or hm with ⟨hc16, hm⟩ | ⟨hc16, hm⟩
        · simp only [hc16, List.length_map, take_map_len, cf0, cf1]
          conv => lhs; whnf
          obtain ⟨o26, ho26, hm⟩ := bind_some hm
          refine rounds_sim (σ := (Int × (List (List EntryS)))) (τ := (List (List EntryS))) (ν := Bool) 2 (fun (s17, s18) a20 => stOf 84 [(7, AV.int .i64 ((Int.tmod (IntKind.i64.wrap (v0_locs)) 3))), (8, AV.int .i64 (IntKind.i64.wrap (1 + (Int.tmod (IntKind.i64.wrap (v1_model)) 3)))), (9, AV.int .i64 (IntKind.i64.wrap (1 + (Int.tmod (IntKind.i64.wrap (v2_room)) 2)))), (10, AV.int .i64 (IntKind.i64.wrap (s1 + 1))), (11, AV.row 0 (List.length (s18))), (12, AV.int .i64 (s2)), (13, AV.int .i64 (s17))]) (fun (s17, s18) => [Ob.row 40 1 (List.map encBuf (s18))]) (fun x41 a40 => stOf 84 [(7, AV.int .i64 ((Int.tmod (IntKind.i64.wrap (v0_locs)) 3))), (8, AV.int .i64 (IntKind.i64.wrap (1 + (Int.tmod (IntKind.i64.wrap (v1_model)) 3)))), (9, AV.int .i64 (IntKind.i64.wrap (1 + (Int.tmod (IntKind.i64.wrap (v2_room)) 2)))), (10, AV.int .i64 (IntKind.i64.wrap (s1 + 1))), (11, AV.row 0 (List.length (x41))), (12, AV.int .i64 (s2))]) (fun x41 => [Ob.row 40 1 (List.map encBuf (x41))]) (fun v => (AV.bool (v), [])) (fun k s => law22_BoundBuffers_L1 n v0_locs s2 k ((s).1) ((s).2)) (fun s => rfl) o26 ?_ n (0, s3) (fun _ => AV.junk) _ _ ho26 ?_ (by first | rfl | (simp only [List.length_map, List.map_append, List.map_cons, List.map_nil, take_map_len, List.append_nil, cf0, cf1] <;> rfl)) (by first | rfl | (simp only [List.length_map, List.map_append, List.map_cons, List.map_nil, take_map_len, List.append_nil, cf0, cf1] <;> rfl))
          · intro k19 ss a20 K21 cont22 hK23 hcont24 hm hr25
            obtain ⟨s17, s18⟩ := ss
            replace hm : law22_BoundBuffers_L1 n v0_locs s2 (k19 + 1) s17 s18 = some o26 := hm
            rw [law22_BoundBuffers_L1] at hm
            conv => lhs; whnf
            rcases bif_or hm with ⟨hc27, hm⟩ | ⟨hc27, hm⟩
            · simp only [hc27, List.length_map, take_map_len, cf0, cf1]
              conv => lhs; whnf
              obtain ⟨x28, hx28, hm⟩ := bind_some hm
              refine bif_pos (by first | exact idx_in hx28 | exact idx_in' hx28) ?_
              simp only [idx_nth (f := encBuf) hx28, List.length_map, take_map_len, cf0, cf1]
              conv => lhs; whnf
              rcases bif_or hm with ⟨hc29, hm⟩ | ⟨hc29, hm⟩
              · simp only [hc29, List.length_map, take_map_len, cf0, cf1]
                conv => lhs; whnf
                obtain ⟨x30, hx30, hm⟩ := bind_some hm
                refine bif_pos (by first | exact idx_in hx30 | exact idx_in' hx30) ?_
                simp only [idx_nth (f := encBuf) hx30, List.length_map, take_map_len, cf0, cf1]
                conv => lhs; whnf
                obtain ⟨hc33, hm⟩ := chk_some hm
                refine bif_pos (app_row hc33 (by first | rfl | simp only [List.length_map]) (by first | rfl | simp only [List.length_map]) (by first | rfl | simp only [List.length_map, take_map_len]) (by kernel_rfl)) ?_
                try simp only [take_map_len, cf0, cf1]
                have hp31 : ([] : List (List AV)) ++ List.map encE (x30) = List.map encE (([] : List EntryS) ++ x30) := by first | rfl | (rw [List.map_append]; rfl) | (rw [List.map_append]; done) | (simp only [List.map_append, List.map_cons, List.map_nil, List.nil_append, encE] <;> rfl)
                have hl32 : List.length ([] : List (List AV)) + List.length (List.map encE (x30) : List (List AV)) = List.length (([] : List EntryS) ++ x30) := by simp only [List.length_map, List.length_append] <;> rfl
                simp only [hp31, hl32]
                try simp only [List.length_map, take_map_len, cf0, cf1]
                conv => lhs; whnf
                obtain ⟨hc36, hm⟩ := chk_some hm
                refine bif_pos (app_row hc36 (by first | rfl | simp only [List.length_map]) (by first | rfl | simp only [List.length_map]) (by first | rfl | simp only [List.length_map, take_map_len]) (by kernel_rfl)) ?_
                try simp only [take_map_len, cf0, cf1]
                have hp34 : (List.map encE (([] : List EntryS) ++ x30) : List (List AV)) ++ [[AV.int .i64 (IntKind.i64.wrap (Int.tdiv s17 2)), AV.int .i64 ((Int.tmod s17 2))]] = List.map encE ((([] : List EntryS) ++ x30) ++ ([(⟨IntKind.i64.wrap (Int.tdiv s17 2), (Int.tmod s17 2)⟩ : EntryS)] : List EntryS)) := by first | rfl | (rw [List.map_append]; rfl) | (rw [List.map_append]; done) | (simp only [List.map_append, List.map_cons, List.map_nil, List.nil_append, encE] <;> rfl)
                have hl35 : List.length (List.map encE (([] : List EntryS) ++ x30) : List (List AV)) + List.length ([[AV.int .i64 (IntKind.i64.wrap (Int.tdiv s17 2)), AV.int .i64 ((Int.tmod s17 2))]] : List (List AV)) = List.length ((([] : List EntryS) ++ x30) ++ ([(⟨IntKind.i64.wrap (Int.tdiv s17 2), (Int.tmod s17 2)⟩ : EntryS)] : List EntryS)) := by simp only [List.length_map, List.length_append] <;> rfl
                simp only [hp34, hl35]
                try simp only [List.length_map, take_map_len, cf0, cf1]
                conv => lhs; whnf
                obtain ⟨hc39, hm⟩ := chk_some hm
                refine bif_pos (app_row hc39 (by first | rfl | simp only [List.length_map]) (by first | rfl | simp only [List.length_map]) (by first | rfl | simp only [List.length_map, take_map_len]) (by kernel_rfl)) ?_
                try simp only [take_map_len, cf0, cf1]
                have hp37 : (List.map encBuf (s18) : List (List AV)) ++ [[AV.sl 2 (List.map encE (((([] : List EntryS) ++ x30) ++ ([(⟨IntKind.i64.wrap (Int.tdiv s17 2), (Int.tmod s17 2)⟩ : EntryS)] : List EntryS))))]] = List.map encBuf (s18 ++ ([((([] : List EntryS) ++ x30) ++ ([(⟨IntKind.i64.wrap (Int.tdiv s17 2), (Int.tmod s17 2)⟩ : EntryS)] : List EntryS))] : List (List EntryS))) := by first | rfl | (rw [List.map_append]; rfl) | (rw [List.map_append]; done) | (simp only [List.map_append, List.map_cons, List.map_nil, List.nil_append, encBuf, aEs] <;> rfl)
                have hl38 : List.length (List.map encBuf (s18) : List (List AV)) + List.length ([[AV.sl 2 (List.map encE (((([] : List EntryS) ++ x30) ++ ([(⟨IntKind.i64.wrap (Int.tdiv s17 2), (Int.tmod s17 2)⟩ : EntryS)] : List EntryS))))]] : List (List AV)) = List.length (s18 ++ ([((([] : List EntryS) ++ x30) ++ ([(⟨IntKind.i64.wrap (Int.tdiv s17 2), (Int.tmod s17 2)⟩ : EntryS)] : List EntryS))] : List (List EntryS))) := by simp only [List.length_map, List.length_append] <;> rfl
                simp only [hp37, hl38]
                try simp only [List.length_map, take_map_len, cf0, cf1]
                conv => lhs; whnf
                exact cont_eq (hcont24 (IntKind.i64.wrap (s17 + 1), (s18 ++ ([((([] : List EntryS) ++ x30) ++ ([(⟨IntKind.i64.wrap (Int.tdiv s17 2), (Int.tmod s17 2)⟩ : EntryS)] : List EntryS))] : List (List EntryS)))) a20 hm) (by first | rfl | (simp only [List.length_map, List.map_append, List.map_cons, List.map_nil, take_map_len, List.append_nil, cf0, cf1] <;> rfl)) (by first | rfl | (simp only [List.length_map, List.map_append, List.map_cons, List.map_nil, take_map_len, List.append_nil, cf0, cf1] <;> rfl))
              · simp only [hc29, List.length_map, take_map_len, cf0, cf1]
                conv => lhs; whnf
                obtain rfl := Option.some.inj hm
                exact kont_eq (hr25 a20) (by first | rfl | (simp only [List.length_map, List.map_append, List.map_cons, List.map_nil, take_map_len, List.append_nil, cf0, cf1] <;> rfl)) (by first | rfl | (simp only [List.length_map, List.map_append, List.map_cons, List.map_nil, take_map_len, List.append_nil, cf0, cf1] <;> rfl))
            · simp only [hc27, List.length_map, take_map_len, cf0, cf1]
              conv => lhs; whnf
              obtain rfl := Option.some.inj hm
              exact kont_eq (hr25 a20) (by first | rfl | (simp only [List.length_map, List.map_append, List.map_cons, List.map_nil, take_map_len, List.append_nil, cf0, cf1] <;> rfl)) (by first | rfl | (simp only [List.length_map, List.map_append, List.map_cons, List.map_nil, take_map_len, List.append_nil, cf0, cf1] <;> rfl))
          · cases o26 with
            | ret v =>
              obtain rfl := Option.some.inj hm
              exact hr10
            | out t =>
              obtain ⟨x41, rfl⟩ : ∃ x, x = t := ⟨_, rfl⟩
              intro a40
              dsimp only at hm
              conv => lhs; whnf
              exact cont_eq (hcont9 (IntKind.i64.wrap (s1 + 1), IntKind.i64.wrap (s2 + 1), x41) a5 hm) (by first | rfl | (simp only [List.length_map, List.map_append, List.map_cons, List.map_nil, take_map_len, List.append_nil, cf0, cf1] <;> rfl)) (by first | rfl | (simp only [List.length_map, List.map_append, List.map_cons, List.map_nil, take_map_len, List.append_nil, cf0, cf1] <;> rfl))
        · simp only [hc16, List.length_map, take_map_len, cf0, cf1]
          conv => lhs; whnf
          obtain ⟨o52, ho52, hm⟩ := bind_some hm
          refine rounds_sim (σ := (Int × (List (List EntryS)))) (τ := (List (List EntryS))) (ν := Bool) 2 (fun (s43, s44) a46 => stOf 84 [(7, AV.int .i64 ((Int.tmod (IntKind.i64.wrap (v0_locs)) 3))), (8, AV.int .i64 (IntKind.i64.wrap (1 + (Int.tmod (IntKind.i64.wrap (v1_model)) 3)))), (9, AV.int .i64 (IntKind.i64.wrap (1 + (Int.tmod (IntKind.i64.wrap (v2_room)) 2)))), (10, AV.int .i64 (s1)), (11, AV.row 0 (List.length (s44))), (12, AV.int .i64 (s2)), (13, AV.int .i64 (s43))]) (fun (s43, s44) => [Ob.row 40 1 (List.map encBuf (s44))]) (fun x67 a66 => stOf 84 [(7, AV.int .i64 ((Int.tmod (IntKind.i64.wrap (v0_locs)) 3))), (8, AV.int .i64 (IntKind.i64.wrap (1 + (Int.tmod (IntKind.i64.wrap (v1_model)) 3)))), (9, AV.int .i64 (IntKind.i64.wrap (1 + (Int.tmod (IntKind.i64.wrap (v2_room)) 2)))), (10, AV.int .i64 (s1)), (11, AV.row 0 (List.length (x67))), (12, AV.int .i64 (s2))]) (fun x67 => [Ob.row 40 1 (List.map encBuf (x67))]) (fun v => (AV.bool (v), [])) (fun k s => law22_BoundBuffers_L2 n v0_locs s2 k ((s).1) ((s).2)) (fun s => rfl) o52 ?_ n (0, s3) (fun _ => AV.junk) _ _ ho52 ?_ (by first | rfl | (simp only [List.length_map, List.map_append, List.map_cons, List.map_nil, take_map_len, List.append_nil, cf0, cf1] <;> rfl)) (by first | rfl | (simp only [List.length_map, List.map_append, List.map_cons, List.map_nil, take_map_len, List.append_nil, cf0, cf1] <;> rfl))
          · intro k45 ss a46 K47 cont48 hK49 hcont50 hm hr51
            obtain ⟨s43, s44⟩ := ss
            replace hm : law22_BoundBuffers_L2 n v0_locs s2 (k45 + 1) s43 s44 = some o52 := hm
            rw [law22_BoundBuffers_L2] at hm
            conv => lhs; whnf
            rcases bif_or hm with ⟨hc53, hm⟩ | ⟨hc53, hm⟩
            · simp only [hc53, List.length_map, take_map_len, cf0, cf1]
              conv => lhs; whnf
              obtain ⟨x54, hx54, hm⟩ := bind_some hm
              refine bif_pos (by first | exact idx_in hx54 | exact idx_in' hx54) ?_
              simp only [idx_nth (f := encBuf) hx54, List.length_map, take_map_len, cf0, cf1]
              conv => lhs; whnf
              rcases bif_or hm with ⟨hc55, hm⟩ | ⟨hc55, hm⟩
              · simp only [hc55, List.length_map, take_map_len, cf0, cf1]
                conv => lhs; whnf
                obtain ⟨x56, hx56, hm⟩ := bind_some hm
                refine bif_pos (by first | exact idx_in hx56 | exact idx_in' hx56) ?_
                simp only [idx_nth (f := encBuf) hx56, List.length_map, take_map_len, cf0, cf1]
                conv => lhs; whnf
                obtain ⟨hc59, hm⟩ := chk_some hm
                refine bif_pos (app_row hc59 (by first | rfl | simp only [List.length_map]) (by first | rfl | simp only [List.length_map]) (by first | rfl | simp only [List.length_map, take_map_len]) (by kernel_rfl)) ?_
                try simp only [take_map_len, cf0, cf1]
                have hp57 : ([] : List (List AV)) ++ List.map encE (x56) = List.map encE (([] : List EntryS) ++ x56) := by first | rfl | (rw [List.map_append]; rfl) | (rw [List.map_append]; done) | (simp only [List.map_append, List.map_cons, List.map_nil, List.nil_append, encE] <;> rfl)
                have hl58 : List.length ([] : List (List AV)) + List.length (List.map encE (x56) : List (List AV)) = List.length (([] : List EntryS) ++ x56) := by simp only [List.length_map, List.length_append] <;> rfl
                simp only [hp57, hl58]
                try simp only [List.length_map, take_map_len, cf0, cf1]
                conv => lhs; whnf
                obtain ⟨hc62, hm⟩ := chk_some hm
                refine bif_pos (app_row hc62 (by first | rfl | simp only [List.length_map]) (by first | rfl | simp only [List.length_map]) (by first | rfl | simp only [List.length_map, take_map_len]) (by kernel_rfl)) ?_
                try simp only [take_map_len, cf0, cf1]
                have hp60 : (List.map encE (([] : List EntryS) ++ x56) : List (List AV)) ++ [[AV.int .i64 (IntKind.i64.wrap (Int.tdiv s43 2)), AV.int .i64 ((Int.tmod s43 2))]] = List.map encE ((([] : List EntryS) ++ x56) ++ ([(⟨IntKind.i64.wrap (Int.tdiv s43 2), (Int.tmod s43 2)⟩ : EntryS)] : List EntryS)) := by first | rfl | (rw [List.map_append]; rfl) | (rw [List.map_append]; done) | (simp only [List.map_append, List.map_cons, List.map_nil, List.nil_append, encE] <;> rfl)
                have hl61 : List.length (List.map encE (([] : List EntryS) ++ x56) : List (List AV)) + List.length ([[AV.int .i64 (IntKind.i64.wrap (Int.tdiv s43 2)), AV.int .i64 ((Int.tmod s43 2))]] : List (List AV)) = List.length ((([] : List EntryS) ++ x56) ++ ([(⟨IntKind.i64.wrap (Int.tdiv s43 2), (Int.tmod s43 2)⟩ : EntryS)] : List EntryS)) := by simp only [List.length_map, List.length_append] <;> rfl
                simp only [hp60, hl61]
                try simp only [List.length_map, take_map_len, cf0, cf1]
                conv => lhs; whnf
                obtain ⟨hc65, hm⟩ := chk_some hm
                refine bif_pos (app_row hc65 (by first | rfl | simp only [List.length_map]) (by first | rfl | simp only [List.length_map]) (by first | rfl | simp only [List.length_map, take_map_len]) (by kernel_rfl)) ?_
                try simp only [take_map_len, cf0, cf1]
                have hp63 : (List.map encBuf (s44) : List (List AV)) ++ [[AV.sl 2 (List.map encE (((([] : List EntryS) ++ x56) ++ ([(⟨IntKind.i64.wrap (Int.tdiv s43 2), (Int.tmod s43 2)⟩ : EntryS)] : List EntryS))))]] = List.map encBuf (s44 ++ ([((([] : List EntryS) ++ x56) ++ ([(⟨IntKind.i64.wrap (Int.tdiv s43 2), (Int.tmod s43 2)⟩ : EntryS)] : List EntryS))] : List (List EntryS))) := by first | rfl | (rw [List.map_append]; rfl) | (rw [List.map_append]; done) | (simp only [List.map_append, List.map_cons, List.map_nil, List.nil_append, encBuf, aEs] <;> rfl)
                have hl64 : List.length (List.map encBuf (s44) : List (List AV)) + List.length ([[AV.sl 2 (List.map encE (((([] : List EntryS) ++ x56) ++ ([(⟨IntKind.i64.wrap (Int.tdiv s43 2), (Int.tmod s43 2)⟩ : EntryS)] : List EntryS))))]] : List (List AV)) = List.length (s44 ++ ([((([] : List EntryS) ++ x56) ++ ([(⟨IntKind.i64.wrap (Int.tdiv s43 2), (Int.tmod s43 2)⟩ : EntryS)] : List EntryS))] : List (List EntryS))) := by simp only [List.length_map, List.length_append] <;> rfl
                simp only [hp63, hl64]
                try simp only [List.length_map, take_map_len, cf0, cf1]
                conv => lhs; whnf
                exact cont_eq (hcont50 (IntKind.i64.wrap (s43 + 1), (s44 ++ ([((([] : List EntryS) ++ x56) ++ ([(⟨IntKind.i64.wrap (Int.tdiv s43 2), (Int.tmod s43 2)⟩ : EntryS)] : List EntryS))] : List (List EntryS)))) a46 hm) (by first | rfl | (simp only [List.length_map, List.map_append, List.map_cons, List.map_nil, take_map_len, List.append_nil, cf0, cf1] <;> rfl)) (by first | rfl | (simp only [List.length_map, List.map_append, List.map_cons, List.map_nil, take_map_len, List.append_nil, cf0, cf1] <;> rfl))
              · simp only [hc55, List.length_map, take_map_len, cf0, cf1]
                conv => lhs; whnf
                obtain rfl := Option.some.inj hm
                exact kont_eq (hr51 a46) (by first | rfl | (simp only [List.length_map, List.map_append, List.map_cons, List.map_nil, take_map_len, List.append_nil, cf0, cf1] <;> rfl)) (by first | rfl | (simp only [List.length_map, List.map_append, List.map_cons, List.map_nil, take_map_len, List.append_nil, cf0, cf1] <;> rfl))
            · simp only [hc53, List.length_map, take_map_len, cf0, cf1]
              conv => lhs; whnf
              obtain rfl := Option.some.inj hm
              exact kont_eq (hr51 a46) (by first | rfl | (simp only [List.length_map, List.map_append, List.map_cons, List.map_nil, take_map_len, List.append_nil, cf0, cf1] <;> rfl)) (by first | rfl | (simp only [List.length_map, List.map_append, List.map_cons, List.map_nil, take_map_len, List.append_nil, cf0, cf1] <;> rfl))
          · cases o52 with
            | ret v =>
              obtain rfl := Option.some.inj hm
              exact hr10
            | out t =>
              obtain ⟨x67, rfl⟩ : ∃ x, x = t := ⟨_, rfl⟩
              intro a66
              dsimp only at hm
              conv => lhs; whnf
              exact cont_eq (hcont9 (s1, IntKind.i64.wrap (s2 + 1), x67) a5 hm) (by first | rfl | (simp only [List.length_map, List.map_append, List.map_cons, List.map_nil, take_map_len, List.append_nil, cf0, cf1] <;> rfl)) (by first | rfl | (simp only [List.length_map, List.map_append, List.map_cons, List.map_nil, take_map_len, List.append_nil, cf0, cf1] <;> rfl))
      · simp only [hc12, List.length_map, take_map_len, cf0, cf1]
        conv => lhs; whnf
        obtain rfl := Option.some.inj hm
        exact kont_eq (hr10 a5) (by first | rfl | (simp only [List.length_map, List.map_append, List.map_cons, List.map_nil, take_map_len, List.append_nil, cf0, cf1] <;> rfl)) (by first | rfl | (simp only [List.length_map, List.map_append, List.map_cons, List.map_nil, take_map_len, List.append_nil, cf0, cf1] <;> rfl))
    · cases o11 with
      | ret v =>
        obtain rfl := Option.some.inj hm
        rfl
      | out t =>
        obtain ⟨x70, x71⟩ := t
        intro a69
        dsimp only at hm
        conv => lhs; whnf
        obtain ⟨y72, hy72, hm⟩ := bind_some hm
        have hk73 : call false 26 [AV.int .i64 ((Int.tmod (IntKind.i64.wrap (v0_locs)) 3)), AV.int .i64 (2), AV.int .i64 (IntKind.i64.wrap (1 + (Int.tmod (IntKind.i64.wrap (v1_model)) 3))), AV.int .i64 (IntKind.i64.wrap (1 + (Int.tmod (IntKind.i64.wrap (v2_room)) 2)))] [] = some (AV.int .i64 (y72), []) := (hc _ _ _).trans (ok_bound_Buffers n (Int.tmod (IntKind.i64.wrap (v0_locs)) 3) 2 (IntKind.i64.wrap (1 + (Int.tmod (IntKind.i64.wrap (v1_model)) 3))) (IntKind.i64.wrap (1 + (Int.tmod (IntKind.i64.wrap (v2_room)) 2))) y72 hy72)
        simp only [hk73, List.length_map, take_map_len, cf0, cf1]
        conv => lhs; whnf
        rcases bif_or hm with ⟨hc74, hm⟩ | ⟨hc74, hm⟩
        · simp only [hc74, List.length_map, take_map_len, cf0, cf1]
          conv => lhs; whnf
          obtain ⟨y75, hy75, hm⟩ := bind_some hm
          have hk76 : call false 18 [] [] = some (AV.bool (y75), []) := (hc _ _ _).trans (ok_law22_known n  y75 hy75)
          simp only [hk76, List.length_map, take_map_len, cf0, cf1]
          conv => lhs; whnf
          obtain rfl := Option.some.inj hm
          try simp only [List.length_map, take_map_len]
          refine fin_eq (y := some (AV.bool (y75), [])) rfl ?_
          first | rfl | (simp only [take_map_len, cf0, cf1] <;> rfl)
        · simp only [hc74, List.length_map, take_map_len, cf0, cf1]
          conv => lhs; whnf
          obtain rfl := Option.some.inj hm
          try simp only [List.length_map, take_map_len]
          refine fin_eq (y := some (AV.bool (false), [])) rfl ?_
          first | rfl | (simp only [take_map_len, cf0, cf1] <;> rfl)
end Go.Proofs.Ytaocgmkcjemecaa
