/- Models of the program's functions, and that the interpreter computes them. (Printed by gen.py.) Parts of the proofs of the laws. Conditions: none. -/
import Derived.Test.YtaocgmkcjemecaaMB
namespace Go.Proofs.Ytaocgmkcjemecaa
set_option linter.unusedVariables false
set_option linter.unusedSimpArgs false
set_option maxRecDepth 100000

def store_Right_L0 (n : Nat)  (v0_b : (List EntryS)) (v1_model : Int) (v2_room : Int) (v3_mod : Int) (v4_locs : Int) : Nat → Int → Option (LR Unit Bool)
  | 0, _ => none
  | k6+1, s5 => (bif decide (s5 < (((v0_b).length : Nat) : Int)) then ((idx v0_b s5).bind fun x15 => (bif decide (x15.loc < 0) then (some (.ret false)) else (bif decide (v4_locs ≤ x15.loc) then (some (.ret false)) else (bif decide (x15.n < 0) then (some (.ret false)) else (bif decide (v3_mod ≤ x15.n) then (some (.ret false)) else (bif (v1_model == 3) then (bif decide (0 < s5) then ((idx v0_b (IntKind.i64.wrap (s5 - 1))).bind fun x22 => (bif decide (x15.loc < x22.loc) then (some (.ret false)) else ((m_store_count n v0_b x15.loc).bind fun y24 => (bif decide (v2_room < y24) then (some (.ret false)) else (store_Right_L0 n v0_b v1_model v2_room v3_mod v4_locs k6 (IntKind.i64.wrap (s5 + 1))))))) else ((m_store_count n v0_b x15.loc).bind fun y27 => (bif decide (v2_room < y27) then (some (.ret false)) else (store_Right_L0 n v0_b v1_model v2_room v3_mod v4_locs k6 (IntKind.i64.wrap (s5 + 1)))))) else (store_Right_L0 n v0_b v1_model v2_room v3_mod v4_locs k6 (IntKind.i64.wrap (s5 + 1))))))))) else (some (.out ())))
def m_store_Right : Nat → (List EntryS) → Int → Int → Int → Int → Option Bool
  | 0, _, _, _, _, _ => none
  | n+1, v0_b, v1_model, v2_room, v3_mod, v4_locs => (bif decide (v2_room < 1) then (some false) else (bif decide (4 < v2_room) then (some false) else (bif decide (v3_mod < 2) then (some false) else (bif decide (16 < v3_mod) then (some false) else ((store_Right_L0 n v0_b v1_model v2_room v3_mod v4_locs n 0).bind fun o13 => match o13 with | .out _ => (bif (v1_model == 1) then (some ((((v0_b).length : Nat) : Int) == 0)) else (bif (v1_model == 2) then (some (decide ((((v0_b).length : Nat) : Int) ≤ v2_room))) else (some (v1_model == 3)))) | .ret v => some v)))))
set_option maxHeartbeats 4000000 in
theorem ok_store_Right (n : Nat) : ∀ (v0_b : (List EntryS)) (v1_model : Int) (v2_room : Int) (v3_mod : Int) (v4_locs : Int) (r : Bool), m_store_Right n v0_b v1_model v2_room v3_mod v4_locs = some r → callN Try.prog HH XT n 74 [AV.sl 2 (List.map encE (v0_b)), AV.int .i64 (v1_model), AV.int .i64 (v2_room), AV.int .i64 (v3_mod), AV.int .i64 (v4_locs)] [] = some (AV.bool (r), []) := by
  cases n with
  | zero => intro v0_b v1_model v2_room v3_mod v4_locs r hm; exact absurd hm (by intro h; cases h)
  | succ n =>
    intro v0_b v1_model v2_room v3_mod v4_locs r hm
    have cf0 : Program.cellsOf Try.prog 42 = 2 := by kernel_rfl
    rw [m_store_Right] at hm
    refine callN_eq' Try.func74 (by rfl) rfl rfl (Nat.le_of_ble_eq_true rfl) ?_
    intro call hc
    conv => lhs; whnf
    rcases bif_or hm with ⟨hc1, hm⟩ | ⟨hc1, hm⟩
    · simp only [hc1, List.length_map, take_map_len, cf0]
      conv => lhs; whnf
      obtain rfl := Option.some.inj hm
      try simp only [List.length_map, take_map_len]
      refine fin_eq (y := some (AV.bool (false), [])) rfl ?_
      first | rfl | (simp only [take_map_len, cf0] <;> rfl)
    · simp only [hc1, List.length_map, take_map_len, cf0]
      conv => lhs; whnf
      rcases bif_or hm with ⟨hc2, hm⟩ | ⟨hc2, hm⟩
      · simp only [hc2, List.length_map, take_map_len, cf0]
        conv => lhs; whnf
        obtain rfl := Option.some.inj hm
        try simp only [List.length_map, take_map_len]
        refine fin_eq (y := some (AV.bool (false), [])) rfl ?_
        first | rfl | (simp only [take_map_len, cf0] <;> rfl)
      · simp only [hc2, List.length_map, take_map_len, cf0]
        conv => lhs; whnf
        rcases bif_or hm with ⟨hc3, hm⟩ | ⟨hc3, hm⟩
        · simp only [hc3, List.length_map, take_map_len, cf0]
          conv => lhs; whnf
          obtain rfl := Option.some.inj hm
          try simp only [List.length_map, take_map_len]
          refine fin_eq (y := some (AV.bool (false), [])) rfl ?_
          first | rfl | (simp only [take_map_len, cf0] <;> rfl)
        · simp only [hc3, List.length_map, take_map_len, cf0]
          conv => lhs; whnf
          rcases bif_or hm with ⟨hc4, hm⟩ | ⟨hc4, hm⟩
          · simp only [hc4, List.length_map, take_map_len, cf0]
            conv => lhs; whnf
            obtain rfl := Option.some.inj hm
            try simp only [List.length_map, take_map_len]
            refine fin_eq (y := some (AV.bool (false), [])) rfl ?_
            first | rfl | (simp only [take_map_len, cf0] <;> rfl)
          · simp only [hc4, List.length_map, take_map_len, cf0]
            conv => lhs; whnf
            obtain ⟨o13, ho13, hm⟩ := bind_some hm
            refine rounds_sim (σ := Int) (τ := Unit) (ν := Bool) 0 (fun s5 a7 => stOf 96 [(0, AV.sl 2 (List.map encE (v0_b))), (1, AV.int .i64 (v1_model)), (2, AV.int .i64 (v2_room)), (3, AV.int .i64 (v3_mod)), (4, AV.int .i64 (v4_locs)), (27, AV.sl 2 (List.map encE (v0_b))), (28, AV.int .i64 ((((v0_b).length : Nat) : Int))), (29, AV.int .i64 (s5))]) (fun s5 => []) (fun _ a30 => stOf 96 [(0, AV.sl 2 (List.map encE (v0_b))), (1, AV.int .i64 (v1_model)), (2, AV.int .i64 (v2_room))]) (fun _ => []) (fun v => (AV.bool (v), [])) (fun k s => store_Right_L0 n v0_b v1_model v2_room v3_mod v4_locs k s) (fun s => rfl) o13 ?_ n 0 (fun _ => AV.junk) _ _ ho13 ?_ (by first | rfl | (simp only [List.length_map, List.map_append, List.map_cons, List.map_nil, take_map_len, List.append_nil, cf0] <;> rfl)) (by first | rfl | (simp only [List.length_map, List.map_append, List.map_cons, List.map_nil, take_map_len, List.append_nil, cf0] <;> rfl))
            · intro k6 ss a7 K8 cont9 hK10 hcont11 hm hr12
              obtain ⟨s5, rfl⟩ : ∃ x, x = ss := ⟨_, rfl⟩
              replace hm : store_Right_L0 n v0_b v1_model v2_room v3_mod v4_locs (k6 + 1) s5 = some o13 := hm
              rw [store_Right_L0] at hm
              conv => lhs; whnf
              rcases bif_or hm with ⟨hc14, hm⟩ | ⟨hc14, hm⟩
              · simp only [hc14, List.length_map, take_map_len, cf0]
                conv => lhs; whnf
                obtain ⟨x15, hx15, hm⟩ := bind_some hm
                refine bif_pos (by first | exact idx_in hx15 | exact idx_in' hx15) ?_
                simp only [idx_nth (f := encE) hx15, List.length_map, take_map_len, cf0]
                conv => lhs; whnf
                rcases bif_or hm with ⟨hc16, hm⟩ | ⟨hc16, hm⟩
                · simp only [hc16, List.length_map, take_map_len, cf0]
                  conv => lhs; whnf
                  obtain rfl := Option.some.inj hm
                  refine (hK10 _ _).trans ?_
                  rw [show _ = some _ from hr12]
                  conv => lhs; whnf
                  try simp only [List.length_map, take_map_len]
                  refine fin_eq (y := some (AV.bool (false), [])) rfl ?_
                  first | rfl | (simp only [take_map_len, cf0] <;> rfl)
                · simp only [hc16, List.length_map, take_map_len, cf0]
                  conv => lhs; whnf
                  rcases bif_or hm with ⟨hc17, hm⟩ | ⟨hc17, hm⟩
                  · simp only [hc17, List.length_map, take_map_len, cf0]
                    conv => lhs; whnf
                    obtain rfl := Option.some.inj hm
                    refine (hK10 _ _).trans ?_
                    rw [show _ = some _ from hr12]
                    conv => lhs; whnf
                    try simp only [List.length_map, take_map_len]
                    refine fin_eq (y := some (AV.bool (false), [])) rfl ?_
                    first | rfl | (simp only [take_map_len, cf0] <;> rfl)
                  · simp only [hc17, List.length_map, take_map_len, cf0]
                    conv => lhs; whnf
                    rcases bif_or hm with ⟨hc18, hm⟩ | ⟨hc18, hm⟩
                    · simp only [hc18, List.length_map, take_map_len, cf0]
                      conv => lhs; whnf
                      obtain rfl := Option.some.inj hm
                      refine (hK10 _ _).trans ?_
                      rw [show _ = some _ from hr12]
                      conv => lhs; whnf
                      try simp only [List.length_map, take_map_len]
                      refine fin_eq (y := some (AV.bool (false), [])) rfl ?_
                      first | rfl | (simp only [take_map_len, cf0] <;> rfl)
                    · simp only [hc18, List.length_map, take_map_len, cf0]
                      conv => lhs; whnf
                      rcases bif_or hm with ⟨hc19, hm⟩ | ⟨hc19, hm⟩
                      · simp only [hc19, List.length_map, take_map_len, cf0]
                        conv => lhs; whnf
                        obtain rfl := Option.some.inj hm
                        refine (hK10 _ _).trans ?_
                        rw [show _ = some _ from hr12]
                        conv => lhs; whnf
                        try simp only [List.length_map, take_map_len]
                        refine fin_eq (y := some (AV.bool (false), [])) rfl ?_
                        first | rfl | (simp only [take_map_len, cf0] <;> rfl)
                      · simp only [hc19, List.length_map, take_map_len, cf0]
                        conv => lhs; whnf
                        rcases bif_or hm with ⟨hc20, hm⟩ | ⟨hc20, hm⟩
                        · simp only [hc20, List.length_map, take_map_len, cf0]
                          conv => lhs; whnf
                          rcases bif_or hm with ⟨hc21, hm⟩ | ⟨hc21, hm⟩
                          · simp only [hc21, List.length_map, take_map_len, cf0]
                            conv => lhs; whnf
                            obtain ⟨x22, hx22, hm⟩ := bind_some hm
                            refine bif_pos (by first | exact idx_in hx22 | exact idx_in' hx22) ?_
                            simp only [idx_nth (f := encE) hx22, List.length_map, take_map_len, cf0]
                            conv => lhs; whnf
                            rcases bif_or hm with ⟨hc23, hm⟩ | ⟨hc23, hm⟩
                            · simp only [hc23, List.length_map, take_map_len, cf0]
                              conv => lhs; whnf
                              obtain rfl := Option.some.inj hm
                              refine (hK10 _ _).trans ?_
                              rw [show _ = some _ from hr12]
                              conv => lhs; whnf
                              try simp only [List.length_map, take_map_len]
                              refine fin_eq (y := some (AV.bool (false), [])) rfl ?_
                              first | rfl | (simp only [take_map_len, cf0] <;> rfl)
                            · simp only [hc23, List.length_map, take_map_len, cf0]
                              conv => lhs; whnf
                              obtain ⟨y24, hy24, hm⟩ := bind_some hm
                              have hk25 : call false 95 [AV.sl 2 (List.map encE (v0_b)), AV.int .i64 (x15.loc)] [] = some (AV.int .i64 (y24), []) := (hc _ _ _).trans (ok_store_count n v0_b x15.loc y24 hy24)
                              simp only [hk25, List.length_map, take_map_len, cf0]
                              conv => lhs; whnf
                              rcases bif_or hm with ⟨hc26, hm⟩ | ⟨hc26, hm⟩
                              · simp only [hc26, List.length_map, take_map_len, cf0]
                                conv => lhs; whnf
                                obtain rfl := Option.some.inj hm
                                refine (hK10 _ _).trans ?_
                                rw [show _ = some _ from hr12]
                                conv => lhs; whnf
                                try simp only [List.length_map, take_map_len]
                                refine fin_eq (y := some (AV.bool (false), [])) rfl ?_
                                first | rfl | (simp only [take_map_len, cf0] <;> rfl)
                              · simp only [hc26, List.length_map, take_map_len, cf0]
                                conv => lhs; whnf
                                exact cont_eq (hcont11 (IntKind.i64.wrap (s5 + 1)) a7 hm) (by first | rfl | (simp only [List.length_map, List.map_append, List.map_cons, List.map_nil, take_map_len, List.append_nil, cf0] <;> rfl)) (by first | rfl | (simp only [List.length_map, List.map_append, List.map_cons, List.map_nil, take_map_len, List.append_nil, cf0] <;> rfl))
                          · simp only [hc21, List.length_map, take_map_len, cf0]
                            conv => lhs; whnf
                            obtain ⟨y27, hy27, hm⟩ := bind_some hm
                            have hk28 : call false 95 [AV.sl 2 (List.map encE (v0_b)), AV.int .i64 (x15.loc)] [] = some (AV.int .i64 (y27), []) := (hc _ _ _).trans (ok_store_count n v0_b x15.loc y27 hy27)
                            simp only [hk28, List.length_map, take_map_len, cf0]
                            conv => lhs; whnf
                            rcases bif_or hm with ⟨hc29, hm⟩ | ⟨hc29, hm⟩
                            · simp only [hc29, List.length_map, take_map_len, cf0]
                              conv => lhs; whnf
                              obtain rfl := Option.some.inj hm
                              refine (hK10 _ _).trans ?_
                              rw [show _ = some _ from hr12]
                              conv => lhs; whnf
                              try simp only [List.length_map, take_map_len]
                              refine fin_eq (y := some (AV.bool (false), [])) rfl ?_
                              first | rfl | (simp only [take_map_len, cf0] <;> rfl)
                            · simp only [hc29, List.length_map, take_map_len, cf0]
                              conv => lhs; whnf
                              exact cont_eq (hcont11 (IntKind.i64.wrap (s5 + 1)) a7 hm) (by first | rfl | (simp only [List.length_map, List.map_append, List.map_cons, List.map_nil, take_map_len, List.append_nil, cf0] <;> rfl)) (by first | rfl | (simp only [List.length_map, List.map_append, List.map_cons, List.map_nil, take_map_len, List.append_nil, cf0] <;> rfl))
                        · simp only [hc20, List.length_map, take_map_len, cf0]
                          conv => lhs; whnf
                          exact cont_eq (hcont11 (IntKind.i64.wrap (s5 + 1)) a7 hm) (by first | rfl | (simp only [List.length_map, List.map_append, List.map_cons, List.map_nil, take_map_len, List.append_nil, cf0] <;> rfl)) (by first | rfl | (simp only [List.length_map, List.map_append, List.map_cons, List.map_nil, take_map_len, List.append_nil, cf0] <;> rfl))
              · simp only [hc14, List.length_map, take_map_len, cf0]
                conv => lhs; whnf
                obtain rfl := Option.some.inj hm
                exact kont_eq (hr12 a7) (by first | rfl | (simp only [List.length_map, List.map_append, List.map_cons, List.map_nil, take_map_len, List.append_nil, cf0] <;> rfl)) (by first | rfl | (simp only [List.length_map, List.map_append, List.map_cons, List.map_nil, take_map_len, List.append_nil, cf0] <;> rfl))
            · cases o13 with
              | ret v =>
                obtain rfl := Option.some.inj hm
                rfl
              | out t =>
                intro a30
                dsimp only at hm
                conv => lhs; whnf
                rcases bif_or hm with ⟨hc31, hm⟩ | ⟨hc31, hm⟩
                · simp only [hc31, List.length_map, take_map_len, cf0]
                  conv => lhs; whnf
                  obtain rfl := Option.some.inj hm
                  try simp only [List.length_map, take_map_len]
                  refine fin_eq (y := some (AV.bool (((((v0_b).length : Nat) : Int) == 0)), [])) rfl ?_
                  first | rfl | (simp only [take_map_len, cf0] <;> rfl)
                · simp only [hc31, List.length_map, take_map_len, cf0]
                  conv => lhs; whnf
                  rcases bif_or hm with ⟨hc32, hm⟩ | ⟨hc32, hm⟩
                  · simp only [hc32, List.length_map, take_map_len, cf0]
                    conv => lhs; whnf
                    obtain rfl := Option.some.inj hm
                    try simp only [List.length_map, take_map_len]
                    refine fin_eq (y := some (AV.bool (decide ((((v0_b).length : Nat) : Int) ≤ v2_room)), [])) rfl ?_
                    first | rfl | (simp only [take_map_len, cf0] <;> rfl)
                  · simp only [hc32, List.length_map, take_map_len, cf0]
                    conv => lhs; whnf
                    obtain rfl := Option.some.inj hm
                    try simp only [List.length_map, take_map_len]
                    refine fin_eq (y := some (AV.bool ((v1_model == 3)), [])) rfl ?_
                    first | rfl | (simp only [take_map_len, cf0] <;> rfl)

def m_conf_own_int : Nat → (List Int) → Option (List Int)
  | 0, _ => none
  | n+1, v0_l => (bif decide ((v0_l).length * 9 ≤ 140737488355328) then (bif decide ((v0_l).length = 0) then (some ([] : List Int)) else (some v0_l)) else none)
set_option maxHeartbeats 4000000 in
theorem ok_conf_own_int (n : Nat) : ∀ (v0_l : (List Int)) (r : (List Int)), m_conf_own_int n v0_l = some r → callN Try.prog HH XT n 70 [AV.sl 1 (List.map encI (v0_l))] [] = some (AV.sl 1 (List.map encI (r)), []) := by
  cases n with
  | zero => intro v0_l r hm; exact absurd hm (by intro h; cases h)
  | succ n =>
    intro v0_l r hm
    have cf0 : Program.cellsOf Try.prog 3 = 1 := by kernel_rfl
    rw [m_conf_own_int] at hm
    refine callN_eq' Try.func70 (by rfl) rfl rfl (Nat.le_of_ble_eq_true rfl) ?_
    intro call hc
    conv => lhs; whnf
    obtain ⟨hc1, hm⟩ := chk_some hm
    refine bif_pos (app_nil hc1 (by simp only [List.length_map, take_map_len]) (by kernel_rfl)) ?_
    try simp only [List.length_map, take_map_len, cf0]
    conv => lhs; whnf
    rcases bif_or hm with ⟨hc2, hm⟩ | ⟨hc2, hm⟩
    · simp only [hc2, List.length_map, take_map_len, cf0]
      conv => lhs; whnf
      obtain rfl := Option.some.inj hm
      try simp only [List.length_map, take_map_len]
      refine fin_eq (y := some (AV.sl 1 [], [])) rfl ?_
      first | rfl | (simp only [take_map_len, cf0] <;> rfl)
    · simp only [hc2, List.length_map, take_map_len, cf0]
      conv => lhs; whnf
      obtain rfl := Option.some.inj hm
      try simp only [List.length_map, take_map_len]
      refine fin_eq (y := some (AV.sl 1 (List.take (List.length (v0_l)) (List.map encI (v0_l))), [])) rfl ?_
      first | rfl | (simp only [take_map_len, cf0] <;> rfl)

def conf_Start_L0 (n : Nat)  (v0_u : UnitS) : Nat → Int → (List (List Int)) → Option (LR (List (List Int)) (ConfS × Int))
  | 0, _, _ => none
  | k12+1, s10, s11 => (bif decide (s10 < (((v0_u.regs).length : Nat) : Int)) then ((idx v0_u.regs s10).bind fun x21 => (bif (decide (0 ≤ x21) && decide ((8 : Int) * (x21) ≤ 140737488355328)) then (bif decide (((s11).length + 1) * 25 ≤ 140737488355328) then (conf_Start_L0 n v0_u k12 (IntKind.i64.wrap (s10 + 1)) (s11 ++ ([(List.replicate (x21).toNat 0)] : List (List Int)))) else none) else none)) else (some (.out s11)))
def m_conf_Start : Nat → UnitS → Option (ConfS × Int)
  | 0, _ => none
  | n+1, v0_u => ((m_lower_Right n v0_u).bind fun y1 => (bif y1 then (bif (decide (0 ≤ (((v0_u.regs).length : Nat) : Int)) && decide ((8 : Int) * ((((v0_u.regs).length : Nat) : Int)) ≤ 140737488355328)) then ((m_conf_own_int n v0_u.init).bind fun y6 => (bif (decide (0 ≤ (((v0_u.regs).length : Nat) : Int)) && decide ((24 : Int) * ((((v0_u.regs).length : Nat) : Int)) ≤ 140737488355328)) then ((conf_Start_L0 n v0_u n 0 ([] : List (List Int))).bind fun o19 => match o19 with | .out x28 => (some ((⟨(List.replicate ((((v0_u.regs).length : Nat) : Int)).toNat 0), x28, y6, (List.replicate ((((v0_u.regs).length : Nat) : Int)).toNat ([] : List EntryS))⟩ : ConfS), 0)) | .ret v => some v) else none)) else none) else (some ((⟨([] : List Int), ([] : List (List Int)), ([] : List Int), ([] : List (List EntryS))⟩ : ConfS), 8))))
set_option maxHeartbeats 4000000 in
theorem ok_conf_Start (n : Nat) : ∀ (v0_u : UnitS) (r : (ConfS × Int)), m_conf_Start n v0_u = some r → callN Try.prog HH XT n 31 [AV.agg (cellsU (v0_u))] [] = some (AV.tup [AV.agg (cellsC ((r).1)), AV.int .i64 ((r).2)], []) := by
  cases n with
  | zero => intro v0_u r hm; exact absurd hm (by intro h; cases h)
  | succ n =>
    intro v0_u r hm
    have cf0 : Program.cellsOf Try.prog 3 = 1 := by kernel_rfl
    have cf1 : Program.cellsOf Try.prog 67 = 1 := by kernel_rfl
    have cf2 : Program.cellsOf Try.prog 81 = 7 := by kernel_rfl
    have cf3 : Program.cellsOf Try.prog 134 = 3 := by kernel_rfl
    have cf4 : Program.cellsOf Try.prog 22 = 1 := by kernel_rfl
    have cf5 : Program.cellsOf Try.prog 40 = 1 := by kernel_rfl
    have cf6 : Program.cellsOf Try.prog 42 = 2 := by kernel_rfl
    rw [m_conf_Start] at hm
    refine callN_eq' Try.func31 (by rfl) rfl rfl (Nat.le_of_ble_eq_true rfl) ?_
    intro call hc
    conv => lhs; whnf
    obtain ⟨y1, hy1, hm⟩ := bind_some hm
    have hk2 : call false 54 [AV.agg [AV.int .i64 (v0_u.mod), AV.sl 1 (List.map encI (v0_u.init)), AV.sl 1 (List.map encI (v0_u.regs)), AV.sl 1 (List.map encThr (v0_u.code))]] [] = some (AV.bool (y1), []) := (hc _ _ _).trans (ok_lower_Right n v0_u y1 hy1)
    simp only [hk2, List.length_map, take_map_len, cf0, cf1, cf2, cf3, cf4, cf5, cf6]
    conv => lhs; whnf
    rcases bif_or hm with ⟨hc3, hm⟩ | ⟨hc3, hm⟩
    · simp only [hc3, List.length_map, take_map_len, cf0, cf1, cf2, cf3, cf4, cf5, cf6]
      conv => lhs; whnf
      obtain ⟨hc5, hm⟩ := chk_some hm
      try simp only [List.length_map, take_map_len, cf0, cf1, cf2, cf3, cf4, cf5, cf6]
      refine bif_pos (by first | exact make_ok (B := 8) hc5 rfl (by kernel_rfl) | exact make_ok2 (B := 8) hc5 (by kernel_rfl)) ?_
      have hr4 : List.replicate ((((v0_u.regs).length : Nat) : Int)).toNat [AV.int .i64 (0)] = List.map encI (List.replicate ((((v0_u.regs).length : Nat) : Int)).toNat 0) := by rw [List.map_replicate]; rfl
      simp only [hr4, List.length_map, take_map_len, cf0, cf1, cf2, cf3, cf4, cf5, cf6]
      conv => lhs; whnf
      obtain ⟨y6, hy6, hm⟩ := bind_some hm
      have hk7 : call false 70 [AV.sl 1 (List.map encI (v0_u.init))] [] = some (AV.sl 1 (List.map encI (y6)), []) := (hc _ _ _).trans (ok_conf_own_int n v0_u.init y6 hy6)
      simp only [hk7, List.length_map, take_map_len, cf0, cf1, cf2, cf3, cf4, cf5, cf6]
      conv => lhs; whnf
      obtain ⟨hc9, hm⟩ := chk_some hm
      try simp only [List.length_map, take_map_len, cf0, cf1, cf2, cf3, cf4, cf5, cf6]
      refine bif_pos (by first | exact make_ok (B := 24) hc9 rfl (by kernel_rfl) | exact make_ok2 (B := 24) hc9 (by kernel_rfl)) ?_
      have hr8 : List.replicate ((((v0_u.regs).length : Nat) : Int)).toNat [AV.sl 2 []] = List.map encBuf (List.replicate ((((v0_u.regs).length : Nat) : Int)).toNat ([] : List EntryS)) := by rw [List.map_replicate]; rfl
      simp only [hr8, List.length_map, take_map_len, cf0, cf1, cf2, cf3, cf4, cf5, cf6]
      conv => lhs; whnf
      obtain ⟨o19, ho19, hm⟩ := bind_some hm
      refine rounds_sim (σ := (Int × (List (List Int)))) (τ := (List (List Int))) (ν := (ConfS × Int)) 0 (fun (s10, s11) a13 => stOf 39 [(2, AV.ptr 1 0), (5, AV.ptr 2 0), (24, AV.sl 1 (List.map encI (v0_u.regs))), (25, AV.int .i64 ((((v0_u.regs).length : Nat) : Int))), (26, AV.int .i64 (s10))]) (fun (s10, s11) => [Ob.var 25 [AV.int .i64 (v0_u.mod), AV.sl 1 (List.map encI (v0_u.init)), AV.sl 1 (List.map encI (v0_u.regs)), AV.sl 1 (List.map encThr (v0_u.code))], Ob.var 57 [AV.row 3 (List.length (([] : List Int))), AV.row 4 (List.length (([] : List (List Int)))), AV.row 5 (List.length (([] : List Int))), AV.row 6 (List.length (([] : List (List EntryS))))], Ob.var 57 [AV.sl 1 (List.map encI ((List.replicate ((((v0_u.regs).length : Nat) : Int)).toNat 0))), AV.row 7 (List.length (s11)), AV.sl 1 (List.map encI (y6)), AV.sl 1 (List.map encBuf ((List.replicate ((((v0_u.regs).length : Nat) : Int)).toNat ([] : List EntryS))))], Ob.row 3 1 ([]), Ob.row 22 1 ([]), Ob.row 3 1 ([]), Ob.row 40 1 ([]), Ob.row 22 1 (List.map encRow (s11))]) (fun x28 a27 => stOf 39 [(2, AV.ptr 1 0), (5, AV.ptr 2 0)]) (fun x28 => [Ob.var 25 [AV.int .i64 (v0_u.mod), AV.sl 1 (List.map encI (v0_u.init)), AV.sl 1 (List.map encI (v0_u.regs)), AV.sl 1 (List.map encThr (v0_u.code))], Ob.var 57 [AV.row 3 (List.length (([] : List Int))), AV.row 4 (List.length (([] : List (List Int)))), AV.row 5 (List.length (([] : List Int))), AV.row 6 (List.length (([] : List (List EntryS))))], Ob.var 57 [AV.sl 1 (List.map encI ((List.replicate ((((v0_u.regs).length : Nat) : Int)).toNat 0))), AV.row 7 (List.length (x28)), AV.sl 1 (List.map encI (y6)), AV.sl 1 (List.map encBuf ((List.replicate ((((v0_u.regs).length : Nat) : Int)).toNat ([] : List EntryS))))], Ob.row 3 1 ([]), Ob.row 22 1 ([]), Ob.row 3 1 ([]), Ob.row 40 1 ([]), Ob.row 22 1 (List.map encRow (x28))]) (fun v => (AV.tup [AV.agg (cellsC ((v).1)), AV.int .i64 ((v).2)], [])) (fun k s => conf_Start_L0 n v0_u k ((s).1) ((s).2)) (fun s => rfl) o19 ?_ n (0, ([] : List (List Int))) (fun _ => AV.junk) _ _ ho19 ?_ (by first | rfl | (simp only [List.length_map, List.map_append, List.map_cons, List.map_nil, take_map_len, List.append_nil, cf0, cf1, cf2, cf3, cf4, cf5, cf6] <;> rfl)) (by first | rfl | (simp only [List.length_map, List.map_append, List.map_cons, List.map_nil, take_map_len, List.append_nil, cf0, cf1, cf2, cf3, cf4, cf5, cf6] <;> rfl))
      · intro k12 ss a13 K14 cont15 hK16 hcont17 hm hr18
        obtain ⟨s10, s11⟩ := ss
        replace hm : conf_Start_L0 n v0_u (k12 + 1) s10 s11 = some o19 := hm
        rw [conf_Start_L0] at hm
        conv => lhs; whnf
        rcases bif_or hm with ⟨hc20, hm⟩ | ⟨hc20, hm⟩
        · simp only [hc20, List.length_map, take_map_len, cf0, cf1, cf2, cf3, cf4, cf5, cf6]
          conv => lhs; whnf
          obtain ⟨x21, hx21, hm⟩ := bind_some hm
          refine bif_pos (by first | exact idx_in hx21 | exact idx_in' hx21) ?_
          simp only [idx_nth (f := encI) hx21, List.length_map, take_map_len, cf0, cf1, cf2, cf3, cf4, cf5, cf6]
          conv => lhs; whnf
          obtain ⟨hc23, hm⟩ := chk_some hm
          try simp only [List.length_map, take_map_len, cf0, cf1, cf2, cf3, cf4, cf5, cf6]
          refine bif_pos (by first | exact make_ok (B := 8) hc23 rfl (by kernel_rfl) | exact make_ok2 (B := 8) hc23 (by kernel_rfl)) ?_
          have hr22 : List.replicate (x21).toNat [AV.int .i64 (0)] = List.map encI (List.replicate (x21).toNat 0) := by rw [List.map_replicate]; rfl
          simp only [hr22, List.length_map, take_map_len, cf0, cf1, cf2, cf3, cf4, cf5, cf6]
          conv => lhs; whnf
          obtain ⟨hc26, hm⟩ := chk_some hm
          refine bif_pos (app_row hc26 (by first | rfl | simp only [List.length_map]) (by first | rfl | simp only [List.length_map]) (by first | rfl | simp only [List.length_map, take_map_len]) (by kernel_rfl)) ?_
          try simp only [take_map_len, cf0, cf1, cf2, cf3, cf4, cf5, cf6]
          have hp24 : (List.map encRow (s11) : List (List AV)) ++ [[AV.sl 1 (List.map encI ((List.replicate (x21).toNat 0)))]] = List.map encRow (s11 ++ ([(List.replicate (x21).toNat 0)] : List (List Int))) := by first | rfl | (rw [List.map_append]; rfl) | (rw [List.map_append]; done) | (simp only [List.map_append, List.map_cons, List.map_nil, List.nil_append, encRow, aIs] <;> rfl)
          have hl25 : List.length (List.map encRow (s11) : List (List AV)) + List.length ([[AV.sl 1 (List.map encI ((List.replicate (x21).toNat 0)))]] : List (List AV)) = List.length (s11 ++ ([(List.replicate (x21).toNat 0)] : List (List Int))) := by simp only [List.length_map, List.length_append] <;> rfl
          simp only [hp24, hl25]
          try simp only [List.length_map, take_map_len, cf0, cf1, cf2, cf3, cf4, cf5, cf6]
          conv => lhs; whnf
          exact cont_eq (hcont17 (IntKind.i64.wrap (s10 + 1), (s11 ++ ([(List.replicate (x21).toNat 0)] : List (List Int)))) a13 hm) (by first | rfl | (simp only [List.length_map, List.map_append, List.map_cons, List.map_nil, take_map_len, List.append_nil, cf0, cf1, cf2, cf3, cf4, cf5, cf6] <;> rfl)) (by first | rfl | (simp only [List.length_map, List.map_append, List.map_cons, List.map_nil, take_map_len, List.append_nil, cf0, cf1, cf2, cf3, cf4, cf5, cf6] <;> rfl))
        · simp only [hc20, List.length_map, take_map_len, cf0, cf1, cf2, cf3, cf4, cf5, cf6]
          conv => lhs; whnf
          obtain rfl := Option.some.inj hm
          exact kont_eq (hr18 a13) (by first | rfl | (simp only [List.length_map, List.map_append, List.map_cons, List.map_nil, take_map_len, List.append_nil, cf0, cf1, cf2, cf3, cf4, cf5, cf6] <;> rfl)) (by first | rfl | (simp only [List.length_map, List.map_append, List.map_cons, List.map_nil, take_map_len, List.append_nil, cf0, cf1, cf2, cf3, cf4, cf5, cf6] <;> rfl))
      · cases o19 with
        | ret v =>
          obtain rfl := Option.some.inj hm
          rfl
        | out t =>
          obtain ⟨x28, rfl⟩ : ∃ x, x = t := ⟨_, rfl⟩
          intro a27
          dsimp only at hm
          conv => lhs; whnf
          obtain rfl := Option.some.inj hm
          try simp only [List.length_map, take_map_len]
          refine fin_eq (y := some (AV.tup [AV.agg [AV.sl 1 (List.map encI ((List.replicate ((((v0_u.regs).length : Nat) : Int)).toNat 0))), AV.sl 1 (List.take (List.length (x28)) (List.map encRow (x28))), AV.sl 1 (List.map encI (y6)), AV.sl 1 (List.map encBuf ((List.replicate ((((v0_u.regs).length : Nat) : Int)).toNat ([] : List EntryS))))], AV.int .i64 (0)], [])) rfl ?_
          first | rfl | (simp only [take_map_len, cf0, cf1, cf2, cf3, cf4, cf5, cf6] <;> rfl)
    · simp only [hc3, List.length_map, take_map_len, cf0, cf1, cf2, cf3, cf4, cf5, cf6]
      conv => lhs; whnf
      obtain rfl := Option.some.inj hm
      try simp only [List.length_map, take_map_len]
      refine fin_eq (y := some (AV.tup [AV.agg [AV.sl 1 [], AV.sl 1 [], AV.sl 1 [], AV.sl 1 []], AV.int .i64 (8)], [])) rfl ?_
      first | rfl | (simp only [take_map_len, cf0, cf1, cf2, cf3, cf4, cf5, cf6] <;> rfl)

def conf_Right_L0 (n : Nat)  (v0_u : UnitS) (v1_c : ConfS) (v2_model : Int) (v3_room : Int) : Nat → Int → Option (LR Unit Bool)
  | 0, _ => none
  | k11+1, s10 => (bif decide (s10 < (((v1_c.pc).length : Nat) : Int)) then ((idx v1_c.pc s10).bind fun x20 => (bif decide (x20 < 0) then (some (.ret false)) else ((idx v0_u.code s10).bind fun x22 => (bif decide ((((x22).length : Nat) : Int) ≤ x20) then (some (.ret false)) else ((idx v1_c.regs s10).bind fun x24 => ((idx v0_u.regs s10).bind fun x25 => ((m_conf_below n x24 v0_u.mod x25).bind fun y26 => (bif y26 then ((idx v1_c.buf s10).bind fun x29 => ((m_store_Right n x29 v2_model v3_room v0_u.mod (((v0_u.init).length : Nat) : Int)).bind fun y30 => (bif y30 then (conf_Right_L0 n v0_u v1_c v2_model v3_room k11 (IntKind.i64.wrap (s10 + 1))) else (some (.ret false))))) else (some (.ret false)))))))))) else (some (.out ())))
def m_conf_Right : Nat → UnitS → ConfS → Int → Int → Option Bool
  | 0, _, _, _, _ => none
  | n+1, v0_u, v1_c, v2_model, v3_room => ((m_lower_Right n v0_u).bind fun y1 => (bif y1 then ((m_conf_below n v1_c.mem v0_u.mod (((v0_u.init).length : Nat) : Int)).bind fun y4 => (bif y4 then (bif ((((v1_c.pc).length : Nat) : Int) != (((v0_u.regs).length : Nat) : Int)) then (some false) else (bif ((((v1_c.regs).length : Nat) : Int) != (((v0_u.regs).length : Nat) : Int)) then (some false) else (bif ((((v1_c.buf).length : Nat) : Int) != (((v0_u.regs).length : Nat) : Int)) then (some false) else ((conf_Right_L0 n v0_u v1_c v2_model v3_room n 0).bind fun o18 => match o18 with | .out _ => (some true) | .ret v => some v)))) else (some false))) else (some false)))
set_option maxHeartbeats 4000000 in
theorem ok_conf_Right (n : Nat) : ∀ (v0_u : UnitS) (v1_c : ConfS) (v2_model : Int) (v3_room : Int) (r : Bool), m_conf_Right n v0_u v1_c v2_model v3_room = some r → callN Try.prog HH XT n 35 [AV.agg (cellsU (v0_u)), AV.agg (cellsC (v1_c)), AV.int .i64 (v2_model), AV.int .i64 (v3_room)] [] = some (AV.bool (r), []) := by
  cases n with
  | zero => intro v0_u v1_c v2_model v3_room r hm; exact absurd hm (by intro h; cases h)
  | succ n =>
    intro v0_u v1_c v2_model v3_room r hm
    have cf0 : Program.cellsOf Try.prog 3 = 1 := by kernel_rfl
    have cf1 : Program.cellsOf Try.prog 67 = 1 := by kernel_rfl
    have cf2 : Program.cellsOf Try.prog 81 = 7 := by kernel_rfl
    have cf3 : Program.cellsOf Try.prog 134 = 3 := by kernel_rfl
    have cf4 : Program.cellsOf Try.prog 22 = 1 := by kernel_rfl
    have cf5 : Program.cellsOf Try.prog 40 = 1 := by kernel_rfl
    have cf6 : Program.cellsOf Try.prog 42 = 2 := by kernel_rfl
    rw [m_conf_Right] at hm
    refine callN_eq' Try.func35 (by rfl) rfl rfl (Nat.le_of_ble_eq_true rfl) ?_
    intro call hc
    conv => lhs; whnf
    obtain ⟨y1, hy1, hm⟩ := bind_some hm
    have hk2 : call false 54 [AV.agg [AV.int .i64 (v0_u.mod), AV.sl 1 (List.map encI (v0_u.init)), AV.sl 1 (List.map encI (v0_u.regs)), AV.sl 1 (List.map encThr (v0_u.code))]] [] = some (AV.bool (y1), []) := (hc _ _ _).trans (ok_lower_Right n v0_u y1 hy1)
    simp only [hk2, List.length_map, take_map_len, cf0, cf1, cf2, cf3, cf4, cf5, cf6]
    conv => lhs; whnf
    rcases bif_or hm with ⟨hc3, hm⟩ | ⟨hc3, hm⟩
    · simp only [hc3, List.length_map, take_map_len, cf0, cf1, cf2, cf3, cf4, cf5, cf6]
      conv => lhs; whnf
      obtain ⟨y4, hy4, hm⟩ := bind_some hm
      have hk5 : call false 73 [AV.sl 1 (List.map encI (v1_c.mem)), AV.int .i64 (v0_u.mod), AV.int .i64 ((((v0_u.init).length : Nat) : Int))] [] = some (AV.bool (y4), []) := (hc _ _ _).trans (ok_conf_below n v1_c.mem v0_u.mod (((v0_u.init).length : Nat) : Int) y4 hy4)
      simp only [hk5, List.length_map, take_map_len, cf0, cf1, cf2, cf3, cf4, cf5, cf6]
      conv => lhs; whnf
      rcases bif_or hm with ⟨hc6, hm⟩ | ⟨hc6, hm⟩
      · simp only [hc6, List.length_map, take_map_len, cf0, cf1, cf2, cf3, cf4, cf5, cf6]
        conv => lhs; whnf
        rcases bif_or hm with ⟨hc7, hm⟩ | ⟨hc7, hm⟩
        · simp only [hc7, List.length_map, take_map_len, cf0, cf1, cf2, cf3, cf4, cf5, cf6]
          conv => lhs; whnf
          obtain rfl := Option.some.inj hm
          try simp only [List.length_map, take_map_len]
          refine fin_eq (y := some (AV.bool (false), [])) rfl ?_
          first | rfl | (simp only [take_map_len, cf0, cf1, cf2, cf3, cf4, cf5, cf6] <;> rfl)
        · simp only [hc7, List.length_map, take_map_len, cf0, cf1, cf2, cf3, cf4, cf5, cf6]
          conv => lhs; whnf
          rcases bif_or hm with ⟨hc8, hm⟩ | ⟨hc8, hm⟩
          · simp only [hc8, List.length_map, take_map_len, cf0, cf1, cf2, cf3, cf4, cf5, cf6]
            conv => lhs; whnf
            obtain rfl := Option.some.inj hm
            try simp only [List.length_map, take_map_len]
            refine fin_eq (y := some (AV.bool (false), [])) rfl ?_
            first | rfl | (simp only [take_map_len, cf0, cf1, cf2, cf3, cf4, cf5, cf6] <;> rfl)
          · simp only [hc8, List.length_map, take_map_len, cf0, cf1, cf2, cf3, cf4, cf5, cf6]
            conv => lhs; whnf
            rcases bif_or hm with ⟨hc9, hm⟩ | ⟨hc9, hm⟩
            · simp only [hc9, List.length_map, take_map_len, cf0, cf1, cf2, cf3, cf4, cf5, cf6]
              conv => lhs; whnf
              obtain rfl := Option.some.inj hm
              try simp only [List.length_map, take_map_len]
              refine fin_eq (y := some (AV.bool (false), [])) rfl ?_
              first | rfl | (simp only [take_map_len, cf0, cf1, cf2, cf3, cf4, cf5, cf6] <;> rfl)
            · simp only [hc9, List.length_map, take_map_len, cf0, cf1, cf2, cf3, cf4, cf5, cf6]
              conv => lhs; whnf
              obtain ⟨o18, ho18, hm⟩ := bind_some hm
              refine rounds_sim (σ := Int) (τ := Unit) (ν := Bool) 0 (fun s10 a12 => stOf 103 [(2, AV.int .i64 (v2_model)), (3, AV.int .i64 (v3_room)), (4, AV.ptr 0 0), (5, AV.ptr 1 0), (51, AV.sl 1 (List.map encI (v1_c.pc))), (52, AV.int .i64 ((((v1_c.pc).length : Nat) : Int))), (53, AV.int .i64 (s10))]) (fun s10 => [Ob.var 25 [AV.int .i64 (v0_u.mod), AV.sl 1 (List.map encI (v0_u.init)), AV.sl 1 (List.map encI (v0_u.regs)), AV.sl 1 (List.map encThr (v0_u.code))], Ob.var 57 [AV.sl 1 (List.map encI (v1_c.pc)), AV.sl 1 (List.map encRow (v1_c.regs)), AV.sl 1 (List.map encI (v1_c.mem)), AV.sl 1 (List.map encBuf (v1_c.buf))]]) (fun _ a33 => stOf 103 []) (fun _ => [Ob.var 25 [AV.int .i64 (v0_u.mod), AV.sl 1 (List.map encI (v0_u.init)), AV.sl 1 (List.map encI (v0_u.regs)), AV.sl 1 (List.map encThr (v0_u.code))], Ob.var 57 [AV.sl 1 (List.map encI (v1_c.pc)), AV.sl 1 (List.map encRow (v1_c.regs)), AV.sl 1 (List.map encI (v1_c.mem)), AV.sl 1 (List.map encBuf (v1_c.buf))]]) (fun v => (AV.bool (v), [])) (fun k s => conf_Right_L0 n v0_u v1_c v2_model v3_room k s) (fun s => rfl) o18 ?_ n 0 (fun _ => AV.junk) _ _ ho18 ?_ (by first | rfl | (simp only [List.length_map, List.map_append, List.map_cons, List.map_nil, take_map_len, List.append_nil, cf0, cf1, cf2, cf3, cf4, cf5, cf6] <;> rfl)) (by first | rfl | (simp only [List.length_map, List.map_append, List.map_cons, List.map_nil, take_map_len, List.append_nil, cf0, cf1, cf2, cf3, cf4, cf5, cf6] <;> rfl))
              · intro k11 ss a12 K13 cont14 hK15 hcont16 hm hr17
                obtain ⟨s10, rfl⟩ : ∃ x, x = ss := ⟨_, rfl⟩
                replace hm : conf_Right_L0 n v0_u v1_c v2_model v3_room (k11 + 1) s10 = some o18 := hm
                rw [conf_Right_L0] at hm
                conv => lhs; whnf
                rcases bif_or hm with ⟨hc19, hm⟩ | ⟨hc19, hm⟩
                · simp only [hc19, List.length_map, take_map_len, cf0, cf1, cf2, cf3, cf4, cf5, cf6]
                  conv => lhs; whnf
                  obtain ⟨x20, hx20, hm⟩ := bind_some hm
                  refine bif_pos (by first | exact idx_in hx20 | exact idx_in' hx20) ?_
                  simp only [idx_nth (f := encI) hx20, List.length_map, take_map_len, cf0, cf1, cf2, cf3, cf4, cf5, cf6]
                  conv => lhs; whnf
                  rcases bif_or hm with ⟨hc21, hm⟩ | ⟨hc21, hm⟩
                  · simp only [hc21, List.length_map, take_map_len, cf0, cf1, cf2, cf3, cf4, cf5, cf6]
                    conv => lhs; whnf
                    obtain rfl := Option.some.inj hm
                    refine (hK15 _ _).trans ?_
                    rw [show _ = some _ from hr17]
                    conv => lhs; whnf
                    try simp only [List.length_map, take_map_len]
                    refine fin_eq (y := some (AV.bool (false), [])) rfl ?_
                    first | rfl | (simp only [take_map_len, cf0, cf1, cf2, cf3, cf4, cf5, cf6] <;> rfl)
                  · simp only [hc21, List.length_map, take_map_len, cf0, cf1, cf2, cf3, cf4, cf5, cf6]
                    conv => lhs; whnf
                    obtain ⟨x22, hx22, hm⟩ := bind_some hm
                    refine bif_pos (by first | exact idx_in hx22 | exact idx_in' hx22) ?_
                    simp only [idx_nth (f := encThr) hx22, List.length_map, take_map_len, cf0, cf1, cf2, cf3, cf4, cf5, cf6]
                    conv => lhs; whnf
                    rcases bif_or hm with ⟨hc23, hm⟩ | ⟨hc23, hm⟩
                    · simp only [hc23, List.length_map, take_map_len, cf0, cf1, cf2, cf3, cf4, cf5, cf6]
                      conv => lhs; whnf
                      obtain rfl := Option.some.inj hm
                      refine (hK15 _ _).trans ?_
                      rw [show _ = some _ from hr17]
                      conv => lhs; whnf
                      try simp only [List.length_map, take_map_len]
                      refine fin_eq (y := some (AV.bool (false), [])) rfl ?_
                      first | rfl | (simp only [take_map_len, cf0, cf1, cf2, cf3, cf4, cf5, cf6] <;> rfl)
                    · simp only [hc23, List.length_map, take_map_len, cf0, cf1, cf2, cf3, cf4, cf5, cf6]
                      conv => lhs; whnf
                      obtain ⟨x24, hx24, hm⟩ := bind_some hm
                      refine bif_pos (by first | exact idx_in hx24 | exact idx_in' hx24) ?_
                      simp only [idx_nth (f := encRow) hx24, List.length_map, take_map_len, cf0, cf1, cf2, cf3, cf4, cf5, cf6]
                      conv => lhs; whnf
                      obtain ⟨x25, hx25, hm⟩ := bind_some hm
                      refine bif_pos (by first | exact idx_in hx25 | exact idx_in' hx25) ?_
                      simp only [idx_nth (f := encI) hx25, List.length_map, take_map_len, cf0, cf1, cf2, cf3, cf4, cf5, cf6]
                      conv => lhs; whnf
                      obtain ⟨y26, hy26, hm⟩ := bind_some hm
                      have hk27 : call false 73 [AV.sl 1 (List.map encI (x24)), AV.int .i64 (v0_u.mod), AV.int .i64 (x25)] [] = some (AV.bool (y26), []) := (hc _ _ _).trans (ok_conf_below n x24 v0_u.mod x25 y26 hy26)
                      simp only [hk27, List.length_map, take_map_len, cf0, cf1, cf2, cf3, cf4, cf5, cf6]
                      conv => lhs; whnf
                      rcases bif_or hm with ⟨hc28, hm⟩ | ⟨hc28, hm⟩
                      · simp only [hc28, List.length_map, take_map_len, cf0, cf1, cf2, cf3, cf4, cf5, cf6]
                        conv => lhs; whnf
                        obtain ⟨x29, hx29, hm⟩ := bind_some hm
                        refine bif_pos (by first | exact idx_in hx29 | exact idx_in' hx29) ?_
                        simp only [idx_nth (f := encBuf) hx29, List.length_map, take_map_len, cf0, cf1, cf2, cf3, cf4, cf5, cf6]
                        conv => lhs; whnf
                        obtain ⟨y30, hy30, hm⟩ := bind_some hm
                        have hk31 : call false 74 [AV.sl 2 (List.map encE (x29)), AV.int .i64 (v2_model), AV.int .i64 (v3_room), AV.int .i64 (v0_u.mod), AV.int .i64 ((((v0_u.init).length : Nat) : Int))] [] = some (AV.bool (y30), []) := (hc _ _ _).trans (ok_store_Right n x29 v2_model v3_room v0_u.mod (((v0_u.init).length : Nat) : Int) y30 hy30)
                        simp only [hk31, List.length_map, take_map_len, cf0, cf1, cf2, cf3, cf4, cf5, cf6]
                        conv => lhs; whnf
                        rcases bif_or hm with ⟨hc32, hm⟩ | ⟨hc32, hm⟩
                        · simp only [hc32, List.length_map, take_map_len, cf0, cf1, cf2, cf3, cf4, cf5, cf6]
                          conv => lhs; whnf
                          exact cont_eq (hcont16 (IntKind.i64.wrap (s10 + 1)) a12 hm) (by first | rfl | (simp only [List.length_map, List.map_append, List.map_cons, List.map_nil, take_map_len, List.append_nil, cf0, cf1, cf2, cf3, cf4, cf5, cf6] <;> rfl)) (by first | rfl | (simp only [List.length_map, List.map_append, List.map_cons, List.map_nil, take_map_len, List.append_nil, cf0, cf1, cf2, cf3, cf4, cf5, cf6] <;> rfl))
                        · simp only [hc32, List.length_map, take_map_len, cf0, cf1, cf2, cf3, cf4, cf5, cf6]
                          conv => lhs; whnf
                          obtain rfl := Option.some.inj hm
                          refine (hK15 _ _).trans ?_
                          rw [show _ = some _ from hr17]
                          conv => lhs; whnf
                          try simp only [List.length_map, take_map_len]
                          refine fin_eq (y := some (AV.bool (false), [])) rfl ?_
                          first | rfl | (simp only [take_map_len, cf0, cf1, cf2, cf3, cf4, cf5, cf6] <;> rfl)
                      · simp only [hc28, List.length_map, take_map_len, cf0, cf1, cf2, cf3, cf4, cf5, cf6]
                        conv => lhs; whnf
                        obtain rfl := Option.some.inj hm
                        refine (hK15 _ _).trans ?_
                        rw [show _ = some _ from hr17]
                        conv => lhs; whnf
                        try simp only [List.length_map, take_map_len]
                        refine fin_eq (y := some (AV.bool (false), [])) rfl ?_
                        first | rfl | (simp only [take_map_len, cf0, cf1, cf2, cf3, cf4, cf5, cf6] <;> rfl)
                · simp only [hc19, List.length_map, take_map_len, cf0, cf1, cf2, cf3, cf4, cf5, cf6]
                  conv => lhs; whnf
                  obtain rfl := Option.some.inj hm
                  exact kont_eq (hr17 a12) (by first | rfl | (simp only [List.length_map, List.map_append, List.map_cons, List.map_nil, take_map_len, List.append_nil, cf0, cf1, cf2, cf3, cf4, cf5, cf6] <;> rfl)) (by first | rfl | (simp only [List.length_map, List.map_append, List.map_cons, List.map_nil, take_map_len, List.append_nil, cf0, cf1, cf2, cf3, cf4, cf5, cf6] <;> rfl))
              · cases o18 with
                | ret v =>
                  obtain rfl := Option.some.inj hm
                  rfl
                | out t =>
                  intro a33
                  dsimp only at hm
                  conv => lhs; whnf
                  obtain rfl := Option.some.inj hm
                  try simp only [List.length_map, take_map_len]
                  refine fin_eq (y := some (AV.bool (true), [])) rfl ?_
                  first | rfl | (simp only [take_map_len, cf0, cf1, cf2, cf3, cf4, cf5, cf6] <;> rfl)
      · simp only [hc6, List.length_map, take_map_len, cf0, cf1, cf2, cf3, cf4, cf5, cf6]
        conv => lhs; whnf
        obtain rfl := Option.some.inj hm
        try simp only [List.length_map, take_map_len]
        refine fin_eq (y := some (AV.bool (false), [])) rfl ?_
        first | rfl | (simp only [take_map_len, cf0, cf1, cf2, cf3, cf4, cf5, cf6] <;> rfl)
    · simp only [hc3, List.length_map, take_map_len, cf0, cf1, cf2, cf3, cf4, cf5, cf6]
      conv => lhs; whnf
      obtain rfl := Option.some.inj hm
      try simp only [List.length_map, take_map_len]
      refine fin_eq (y := some (AV.bool (false), [])) rfl ?_
      first | rfl | (simp only [take_map_len, cf0, cf1, cf2, cf3, cf4, cf5, cf6] <;> rfl)

def ref09_Right_L0 (n : Nat)  (v0_u : UnitS) (v1_c : ConfS) (v2_model : Int) (v3_room : Int) : Nat → Int → Option (LR Unit Bool)
  | 0, _ => none
  | k12+1, s11 => (bif decide (s11 < (((v0_u.regs).length : Nat) : Int)) then ((idx v1_c.pc s11).bind fun x21 => (bif decide (x21 < 0) then (some (.ret false)) else ((idx v1_c.pc s11).bind fun x23 => ((idx v0_u.code s11).bind fun x24 => (bif decide ((((x24).length : Nat) : Int) ≤ x23) then (some (.ret false)) else ((idx v1_c.regs s11).bind fun x26 => ((idx v0_u.regs s11).bind fun x27 => (bif ((((x26).length : Nat) : Int) != x27) then (some (.ret false)) else ((idx v1_c.regs s11).bind fun x29 => ((m_ref06_All n x29 v0_u.mod).bind fun y30 => (bif y30 then ((idx v1_c.buf s11).bind fun x33 => ((m_ref08_Right n x33 v2_model v3_room v0_u.mod (((v0_u.init).length : Nat) : Int)).bind fun y34 => (bif y34 then (ref09_Right_L0 n v0_u v1_c v2_model v3_room k12 (IntKind.i64.wrap (s11 + 1))) else (some (.ret false))))) else (some (.ret false))))))))))))) else (some (.out ())))
def m_ref09_Right : Nat → UnitS → ConfS → Int → Int → Option Bool
  | 0, _, _, _, _ => none
  | n+1, v0_u, v1_c, v2_model, v3_room => ((m_ref07_Right n v0_u).bind fun y1 => (bif y1 then (bif ((((v1_c.pc).length : Nat) : Int) != (((v0_u.regs).length : Nat) : Int)) then (some false) else (bif ((((v1_c.regs).length : Nat) : Int) != (((v0_u.regs).length : Nat) : Int)) then (some false) else (bif ((((v1_c.buf).length : Nat) : Int) != (((v0_u.regs).length : Nat) : Int)) then (some false) else (bif ((((v1_c.mem).length : Nat) : Int) != (((v0_u.init).length : Nat) : Int)) then (some false) else ((m_ref06_All n v1_c.mem v0_u.mod).bind fun y8 => (bif y8 then ((ref09_Right_L0 n v0_u v1_c v2_model v3_room n 0).bind fun o19 => match o19 with | .out _ => ((m_ref08_Right n ([] : List EntryS) v2_model v3_room v0_u.mod (((v0_u.init).length : Nat) : Int)).bind fun y38 => (some y38)) | .ret v => some v) else (some false))))))) else (some false)))
set_option maxHeartbeats 4000000 in
theorem ok_ref09_Right (n : Nat) : ∀ (v0_u : UnitS) (v1_c : ConfS) (v2_model : Int) (v3_room : Int) (r : Bool), m_ref09_Right n v0_u v1_c v2_model v3_room = some r → callN Try.prog HH XT n 36 [AV.agg (cellsU (v0_u)), AV.agg (cellsC (v1_c)), AV.int .i64 (v2_model), AV.int .i64 (v3_room)] [] = some (AV.bool (r), []) := by
  cases n with
  | zero => intro v0_u v1_c v2_model v3_room r hm; exact absurd hm (by intro h; cases h)
  | succ n =>
    intro v0_u v1_c v2_model v3_room r hm
    have cf0 : Program.cellsOf Try.prog 3 = 1 := by kernel_rfl
    have cf1 : Program.cellsOf Try.prog 67 = 1 := by kernel_rfl
    have cf2 : Program.cellsOf Try.prog 81 = 7 := by kernel_rfl
    have cf3 : Program.cellsOf Try.prog 134 = 3 := by kernel_rfl
    have cf4 : Program.cellsOf Try.prog 22 = 1 := by kernel_rfl
    have cf5 : Program.cellsOf Try.prog 40 = 1 := by kernel_rfl
    have cf6 : Program.cellsOf Try.prog 42 = 2 := by kernel_rfl
    rw [m_ref09_Right] at hm
    refine callN_eq' Try.func36 (by rfl) rfl rfl (Nat.le_of_ble_eq_true rfl) ?_
    intro call hc
    conv => lhs; whnf
    obtain ⟨y1, hy1, hm⟩ := bind_some hm
    have hk2 : call false 21 [AV.agg [AV.int .i64 (v0_u.mod), AV.sl 1 (List.map encI (v0_u.init)), AV.sl 1 (List.map encI (v0_u.regs)), AV.sl 1 (List.map encThr (v0_u.code))]] [] = some (AV.bool (y1), []) := (hc _ _ _).trans (ok_ref07_Right n v0_u y1 hy1)
    simp only [hk2, List.length_map, take_map_len, cf0, cf1, cf2, cf3, cf4, cf5, cf6]
    conv => lhs; whnf
    rcases bif_or hm with ⟨hc3, hm⟩ | ⟨hc3, hm⟩
    · simp only [hc3, List.length_map, take_map_len, cf0, cf1, cf2, cf3, cf4, cf5, cf6]
      conv => lhs; whnf
      rcases bif_or hm with ⟨hc4, hm⟩ | ⟨hc4, hm⟩
      · simp only [hc4, List.length_map, take_map_len, cf0, cf1, cf2, cf3, cf4, cf5, cf6]
        conv => lhs; whnf
        obtain rfl := Option.some.inj hm
        try simp only [List.length_map, take_map_len]
        refine fin_eq (y := some (AV.bool (false), [])) rfl ?_
        first | rfl | (simp only [take_map_len, cf0, cf1, cf2, cf3, cf4, cf5, cf6] <;> rfl)
      · simp only [hc4, List.length_map, take_map_len, cf0, cf1, cf2, cf3, cf4, cf5, cf6]
        conv => lhs; whnf
        rcases bif_or hm with ⟨hc5, hm⟩ | ⟨hc5, hm⟩
        · simp only [hc5, List.length_map, take_map_len, cf0, cf1, cf2, cf3, cf4, cf5, cf6]
          conv => lhs; whnf
          obtain rfl := Option.some.inj hm
          try simp only [List.length_map, take_map_len]
          refine fin_eq (y := some (AV.bool (false), [])) rfl ?_
          first | rfl | (simp only [take_map_len, cf0, cf1, cf2, cf3, cf4, cf5, cf6] <;> rfl)
        · simp only [hc5, List.length_map, take_map_len, cf0, cf1, cf2, cf3, cf4, cf5, cf6]
          conv => lhs; whnf
          rcases bif_or hm with ⟨hc6, hm⟩ | ⟨hc6, hm⟩
          · simp only [hc6, List.length_map, take_map_len, cf0, cf1, cf2, cf3, cf4, cf5, cf6]
            conv => lhs; whnf
            obtain rfl := Option.some.inj hm
            try simp only [List.length_map, take_map_len]
            refine fin_eq (y := some (AV.bool (false), [])) rfl ?_
            first | rfl | (simp only [take_map_len, cf0, cf1, cf2, cf3, cf4, cf5, cf6] <;> rfl)
          · simp only [hc6, List.length_map, take_map_len, cf0, cf1, cf2, cf3, cf4, cf5, cf6]
            conv => lhs; whnf
            rcases bif_or hm with ⟨hc7, hm⟩ | ⟨hc7, hm⟩
            · simp only [hc7, List.length_map, take_map_len, cf0, cf1, cf2, cf3, cf4, cf5, cf6]
              conv => lhs; whnf
              obtain rfl := Option.some.inj hm
              try simp only [List.length_map, take_map_len]
              refine fin_eq (y := some (AV.bool (false), [])) rfl ?_
              first | rfl | (simp only [take_map_len, cf0, cf1, cf2, cf3, cf4, cf5, cf6] <;> rfl)
            · simp only [hc7, List.length_map, take_map_len, cf0, cf1, cf2, cf3, cf4, cf5, cf6]
              conv => lhs; whnf
              obtain ⟨y8, hy8, hm⟩ := bind_some hm
              have hk9 : call false 59 [AV.sl 1 (List.map encI (v1_c.mem)), AV.int .i64 (v0_u.mod)] [] = some (AV.bool (y8), []) := (hc _ _ _).trans (ok_ref06_All n v1_c.mem v0_u.mod y8 hy8)
              simp only [hk9, List.length_map, take_map_len, cf0, cf1, cf2, cf3, cf4, cf5, cf6]
              conv => lhs; whnf
              rcases bif_or hm with ⟨hc10, hm⟩ | ⟨hc10, hm⟩
              · simp only [hc10, List.length_map, take_map_len, cf0, cf1, cf2, cf3, cf4, cf5, cf6]
                conv => lhs; whnf
                obtain ⟨o19, ho19, hm⟩ := bind_some hm
                refine rounds_sim (σ := Int) (τ := Unit) (ν := Bool) 0 (fun s11 a13 => stOf 129 [(2, AV.int .i64 (v2_model)), (3, AV.int .i64 (v3_room)), (4, AV.ptr 0 0), (5, AV.ptr 1 0), (9, AV.int .i64 ((((v0_u.regs).length : Nat) : Int))), (10, AV.int .i64 (s11))]) (fun s11 => [Ob.var 25 [AV.int .i64 (v0_u.mod), AV.sl 1 (List.map encI (v0_u.init)), AV.sl 1 (List.map encI (v0_u.regs)), AV.sl 1 (List.map encThr (v0_u.code))], Ob.var 57 [AV.sl 1 (List.map encI (v1_c.pc)), AV.sl 1 (List.map encRow (v1_c.regs)), AV.sl 1 (List.map encI (v1_c.mem)), AV.sl 1 (List.map encBuf (v1_c.buf))]]) (fun _ a37 => stOf 129 [(2, AV.int .i64 (v2_model)), (3, AV.int .i64 (v3_room)), (4, AV.ptr 0 0)]) (fun _ => [Ob.var 25 [AV.int .i64 (v0_u.mod), AV.sl 1 (List.map encI (v0_u.init)), AV.sl 1 (List.map encI (v0_u.regs)), AV.sl 1 (List.map encThr (v0_u.code))], Ob.var 57 [AV.sl 1 (List.map encI (v1_c.pc)), AV.sl 1 (List.map encRow (v1_c.regs)), AV.sl 1 (List.map encI (v1_c.mem)), AV.sl 1 (List.map encBuf (v1_c.buf))]]) (fun v => (AV.bool (v), [])) (fun k s => ref09_Right_L0 n v0_u v1_c v2_model v3_room k s) (fun s => rfl) o19 ?_ n 0 (fun _ => AV.junk) _ _ ho19 ?_ (by first | rfl | (simp only [List.length_map, List.map_append, List.map_cons, List.map_nil, take_map_len, List.append_nil, cf0, cf1, cf2, cf3, cf4, cf5, cf6] <;> rfl)) (by first | rfl | (simp only [List.length_map, List.map_append, List.map_cons, List.map_nil, take_map_len, List.append_nil, cf0, cf1, cf2, cf3, cf4, cf5, cf6] <;> rfl))
                · intro k12 ss a13 K14 cont15 hK16 hcont17 hm hr18
                  obtain ⟨s11, rfl⟩ : ∃ x, x = ss := ⟨_, rfl⟩
                  replace hm : ref09_Right_L0 n v0_u v1_c v2_model v3_room (k12 + 1) s11 = some o19 := hm
                  rw [ref09_Right_L0] at hm
                  conv => lhs; whnf
                  rcases bif_or hm with ⟨hc20, hm⟩ | ⟨hc20, hm⟩
                  · simp only [hc20, List.length_map, take_map_len, cf0, cf1, cf2, cf3, cf4, cf5, cf6]
                    conv => lhs; whnf
                    obtain ⟨x21, hx21, hm⟩ := bind_some hm
                    refine bif_pos (by first | exact idx_in hx21 | exact idx_in' hx21) ?_
                    simp only [idx_nth (f := encI) hx21, List.length_map, take_map_len, cf0, cf1, cf2, cf3, cf4, cf5, cf6]
                    conv => lhs; whnf
                    rcases bif_or hm with ⟨hc22, hm⟩ | ⟨hc22, hm⟩
                    · simp only [hc22, List.length_map, take_map_len, cf0, cf1, cf2, cf3, cf4, cf5, cf6]
                      conv => lhs; whnf
                      obtain rfl := Option.some.inj hm
                      refine (hK16 _ _).trans ?_
                      rw [show _ = some _ from hr18]
                      conv => lhs; whnf
                      try simp only [List.length_map, take_map_len]
                      refine fin_eq (y := some (AV.bool (false), [])) rfl ?_
                      first | rfl | (simp only [take_map_len, cf0, cf1, cf2, cf3, cf4, cf5, cf6] <;> rfl)
                    · simp only [hc22, List.length_map, take_map_len, cf0, cf1, cf2, cf3, cf4, cf5, cf6]
                      conv => lhs; whnf
                      obtain ⟨x23, hx23, hm⟩ := bind_some hm
                      refine bif_pos (by first | exact idx_in hx23 | exact idx_in' hx23) ?_
                      simp only [idx_nth (f := encI) hx23, List.length_map, take_map_len, cf0, cf1, cf2, cf3, cf4, cf5, cf6]
                      conv => lhs; whnf
                      obtain ⟨x24, hx24, hm⟩ := bind_some hm
                      refine bif_pos (by first | exact idx_in hx24 | exact idx_in' hx24) ?_
                      simp only [idx_nth (f := encThr) hx24, List.length_map, take_map_len, cf0, cf1, cf2, cf3, cf4, cf5, cf6]
                      conv => lhs; whnf
                      rcases bif_or hm with ⟨hc25, hm⟩ | ⟨hc25, hm⟩
                      · simp only [hc25, List.length_map, take_map_len, cf0, cf1, cf2, cf3, cf4, cf5, cf6]
                        conv => lhs; whnf
                        obtain rfl := Option.some.inj hm
                        refine (hK16 _ _).trans ?_
                        rw [show _ = some _ from hr18]
                        conv => lhs; whnf
                        try simp only [List.length_map, take_map_len]
                        refine fin_eq (y := some (AV.bool (false), [])) rfl ?_
                        first | rfl | (simp only [take_map_len, cf0, cf1, cf2, cf3, cf4, cf5, cf6] <;> rfl)
                      · simp only [hc25, List.length_map, take_map_len, cf0, cf1, cf2, cf3, cf4, cf5, cf6]
                        conv => lhs; whnf
                        obtain ⟨x26, hx26, hm⟩ := bind_some hm
                        refine bif_pos (by first | exact idx_in hx26 | exact idx_in' hx26) ?_
                        simp only [idx_nth (f := encRow) hx26, List.length_map, take_map_len, cf0, cf1, cf2, cf3, cf4, cf5, cf6]
                        conv => lhs; whnf
                        obtain ⟨x27, hx27, hm⟩ := bind_some hm
                        refine bif_pos (by first | exact idx_in hx27 | exact idx_in' hx27) ?_
                        simp only [idx_nth (f := encI) hx27, List.length_map, take_map_len, cf0, cf1, cf2, cf3, cf4, cf5, cf6]
                        conv => lhs; whnf
                        rcases bif_or hm with ⟨hc28, hm⟩ | ⟨hc28, hm⟩
                        · simp only [hc28, List.length_map, take_map_len, cf0, cf1, cf2, cf3, cf4, cf5, cf6]
                          conv => lhs; whnf
                          obtain rfl := Option.some.inj hm
                          refine (hK16 _ _).trans ?_
                          rw [show _ = some _ from hr18]
                          conv => lhs; whnf
                          try simp only [List.length_map, take_map_len]
                          refine fin_eq (y := some (AV.bool (false), [])) rfl ?_
                          first | rfl | (simp only [take_map_len, cf0, cf1, cf2, cf3, cf4, cf5, cf6] <;> rfl)
                        · simp only [hc28, List.length_map, take_map_len, cf0, cf1, cf2, cf3, cf4, cf5, cf6]
                          conv => lhs; whnf
                          obtain ⟨x29, hx29, hm⟩ := bind_some hm
                          refine bif_pos (by first | exact idx_in hx29 | exact idx_in' hx29) ?_
                          simp only [idx_nth (f := encRow) hx29, List.length_map, take_map_len, cf0, cf1, cf2, cf3, cf4, cf5, cf6]
                          conv => lhs; whnf
                          obtain ⟨y30, hy30, hm⟩ := bind_some hm
                          have hk31 : call false 59 [AV.sl 1 (List.map encI (x29)), AV.int .i64 (v0_u.mod)] [] = some (AV.bool (y30), []) := (hc _ _ _).trans (ok_ref06_All n x29 v0_u.mod y30 hy30)
                          simp only [hk31, List.length_map, take_map_len, cf0, cf1, cf2, cf3, cf4, cf5, cf6]
                          conv => lhs; whnf
                          rcases bif_or hm with ⟨hc32, hm⟩ | ⟨hc32, hm⟩
                          · simp only [hc32, List.length_map, take_map_len, cf0, cf1, cf2, cf3, cf4, cf5, cf6]
                            conv => lhs; whnf
                            obtain ⟨x33, hx33, hm⟩ := bind_some hm
                            refine bif_pos (by first | exact idx_in hx33 | exact idx_in' hx33) ?_
                            simp only [idx_nth (f := encBuf) hx33, List.length_map, take_map_len, cf0, cf1, cf2, cf3, cf4, cf5, cf6]
                            conv => lhs; whnf
                            obtain ⟨y34, hy34, hm⟩ := bind_some hm
                            have hk35 : call false 28 [AV.sl 2 (List.map encE (x33)), AV.int .i64 (v2_model), AV.int .i64 (v3_room), AV.int .i64 (v0_u.mod), AV.int .i64 ((((v0_u.init).length : Nat) : Int))] [] = some (AV.bool (y34), []) := (hc _ _ _).trans (ok_ref08_Right n x33 v2_model v3_room v0_u.mod (((v0_u.init).length : Nat) : Int) y34 hy34)
                            simp only [hk35, List.length_map, take_map_len, cf0, cf1, cf2, cf3, cf4, cf5, cf6]
                            conv => lhs; whnf
                            rcases bif_or hm with ⟨hc36, hm⟩ | ⟨hc36, hm⟩
                            · simp only [hc36, List.length_map, take_map_len, cf0, cf1, cf2, cf3, cf4, cf5, cf6]
                              conv => lhs; whnf
                              exact cont_eq (hcont17 (IntKind.i64.wrap (s11 + 1)) a13 hm) (by first | rfl | (simp only [List.length_map, List.map_append, List.map_cons, List.map_nil, take_map_len, List.append_nil, cf0, cf1, cf2, cf3, cf4, cf5, cf6] <;> rfl)) (by first | rfl | (simp only [List.length_map, List.map_append, List.map_cons, List.map_nil, take_map_len, List.append_nil, cf0, cf1, cf2, cf3, cf4, cf5, cf6] <;> rfl))
                            · simp only [hc36, List.length_map, take_map_len, cf0, cf1, cf2, cf3, cf4, cf5, cf6]
                              conv => lhs; whnf
                              obtain rfl := Option.some.inj hm
                              refine (hK16 _ _).trans ?_
                              rw [show _ = some _ from hr18]
                              conv => lhs; whnf
                              try simp only [List.length_map, take_map_len]
                              refine fin_eq (y := some (AV.bool (false), [])) rfl ?_
                              first | rfl | (simp only [take_map_len, cf0, cf1, cf2, cf3, cf4, cf5, cf6] <;> rfl)
                          · simp only [hc32, List.length_map, take_map_len, cf0, cf1, cf2, cf3, cf4, cf5, cf6]
                            conv => lhs; whnf
                            obtain rfl := Option.some.inj hm
                            refine (hK16 _ _).trans ?_
                            rw [show _ = some _ from hr18]
                            conv => lhs; whnf
                            try simp only [List.length_map, take_map_len]
                            refine fin_eq (y := some (AV.bool (false), [])) rfl ?_
                            first | rfl | (simp only [take_map_len, cf0, cf1, cf2, cf3, cf4, cf5, cf6] <;> rfl)
                  · simp only [hc20, List.length_map, take_map_len, cf0, cf1, cf2, cf3, cf4, cf5, cf6]
                    conv => lhs; whnf
                    obtain rfl := Option.some.inj hm
                    exact kont_eq (hr18 a13) (by first | rfl | (simp only [List.length_map, List.map_append, List.map_cons, List.map_nil, take_map_len, List.append_nil, cf0, cf1, cf2, cf3, cf4, cf5, cf6] <;> rfl)) (by first | rfl | (simp only [List.length_map, List.map_append, List.map_cons, List.map_nil, take_map_len, List.append_nil, cf0, cf1, cf2, cf3, cf4, cf5, cf6] <;> rfl))
                · cases o19 with
                  | ret v =>
                    obtain rfl := Option.some.inj hm
                    rfl
                  | out t =>
                    intro a37
                    dsimp only at hm
                    conv => lhs; whnf
                    obtain ⟨y38, hy38, hm⟩ := bind_some hm
                    have hk39 : call false 28 [AV.sl 2 [], AV.int .i64 (v2_model), AV.int .i64 (v3_room), AV.int .i64 (v0_u.mod), AV.int .i64 ((((v0_u.init).length : Nat) : Int))] [] = some (AV.bool (y38), []) := (hc _ _ _).trans (ok_ref08_Right n ([] : List EntryS) v2_model v3_room v0_u.mod (((v0_u.init).length : Nat) : Int) y38 hy38)
                    simp only [hk39, List.length_map, take_map_len, cf0, cf1, cf2, cf3, cf4, cf5, cf6]
                    conv => lhs; whnf
                    obtain rfl := Option.some.inj hm
                    try simp only [List.length_map, take_map_len]
                    refine fin_eq (y := some (AV.bool (y38), [])) rfl ?_
                    first | rfl | (simp only [take_map_len, cf0, cf1, cf2, cf3, cf4, cf5, cf6] <;> rfl)
              · simp only [hc10, List.length_map, take_map_len, cf0, cf1, cf2, cf3, cf4, cf5, cf6]
                conv => lhs; whnf
                obtain rfl := Option.some.inj hm
                try simp only [List.length_map, take_map_len]
                refine fin_eq (y := some (AV.bool (false), [])) rfl ?_
                first | rfl | (simp only [take_map_len, cf0, cf1, cf2, cf3, cf4, cf5, cf6] <;> rfl)
    · simp only [hc3, List.length_map, take_map_len, cf0, cf1, cf2, cf3, cf4, cf5, cf6]
      conv => lhs; whnf
      obtain rfl := Option.some.inj hm
      try simp only [List.length_map, take_map_len]
      refine fin_eq (y := some (AV.bool (false), [])) rfl ?_
      first | rfl | (simp only [take_map_len, cf0, cf1, cf2, cf3, cf4, cf5, cf6] <;> rfl)

def conf_Quiet_L0 (n : Nat)  (v0_c : ConfS) : Nat → Int → Option (LR Unit Bool)
  | 0, _ => none
  | k2+1, s1 => (bif decide (s1 < (((v0_c.buf).length : Nat) : Int)) then ((idx v0_c.buf s1).bind fun x11 => (bif decide (0 < (((x11).length : Nat) : Int)) then (some (.ret false)) else (conf_Quiet_L0 n v0_c k2 (IntKind.i64.wrap (s1 + 1))))) else (some (.out ())))
def m_conf_Quiet : Nat → ConfS → Option Bool
  | 0, _ => none
  | n+1, v0_c => ((conf_Quiet_L0 n v0_c n 0).bind fun o9 => match o9 with | .out _ => (some true) | .ret v => some v)
set_option maxHeartbeats 4000000 in
theorem ok_conf_Quiet (n : Nat) : ∀ (v0_c : ConfS) (r : Bool), m_conf_Quiet n v0_c = some r → callN Try.prog HH XT n 37 [AV.agg (cellsC (v0_c))] [] = some (AV.bool (r), []) := by
  cases n with
  | zero => intro v0_c r hm; exact absurd hm (by intro h; cases h)
  | succ n =>
    intro v0_c r hm
    have cf0 : Program.cellsOf Try.prog 3 = 1 := by kernel_rfl
    have cf1 : Program.cellsOf Try.prog 22 = 1 := by kernel_rfl
    have cf2 : Program.cellsOf Try.prog 40 = 1 := by kernel_rfl
    have cf3 : Program.cellsOf Try.prog 42 = 2 := by kernel_rfl
    rw [m_conf_Quiet] at hm
    refine callN_eq' Try.func37 (by rfl) rfl rfl (Nat.le_of_ble_eq_true rfl) ?_
    intro call hc
    conv => lhs; whnf
    obtain ⟨o9, ho9, hm⟩ := bind_some hm
    refine rounds_sim (σ := Int) (τ := Unit) (ν := Bool) 0 (fun s1 a3 => stOf 16 [(6, AV.sl 1 (List.map encBuf (v0_c.buf))), (7, AV.int .i64 ((((v0_c.buf).length : Nat) : Int))), (8, AV.int .i64 (s1))]) (fun s1 => [Ob.var 57 [AV.sl 1 (List.map encI (v0_c.pc)), AV.sl 1 (List.map encRow (v0_c.regs)), AV.sl 1 (List.map encI (v0_c.mem)), AV.sl 1 (List.map encBuf (v0_c.buf))]]) (fun _ a13 => stOf 16 []) (fun _ => [Ob.var 57 [AV.sl 1 (List.map encI (v0_c.pc)), AV.sl 1 (List.map encRow (v0_c.regs)), AV.sl 1 (List.map encI (v0_c.mem)), AV.sl 1 (List.map encBuf (v0_c.buf))]]) (fun v => (AV.bool (v), [])) (fun k s => conf_Quiet_L0 n v0_c k s) (fun s => rfl) o9 ?_ n 0 (fun _ => AV.junk) _ _ ho9 ?_ (by first | rfl | (simp only [List.length_map, List.map_append, List.map_cons, List.map_nil, take_map_len, List.append_nil, cf0, cf1, cf2, cf3] <;> rfl)) (by first | rfl | (simp only [List.length_map, List.map_append, List.map_cons, List.map_nil, take_map_len, List.append_nil, cf0, cf1, cf2, cf3] <;> rfl))
    · intro k2 ss a3 K4 cont5 hK6 hcont7 hm hr8
      obtain ⟨s1, rfl⟩ : ∃ x, x = ss := ⟨_, rfl⟩
      replace hm : conf_Quiet_L0 n v0_c (k2 + 1) s1 = some o9 := hm
      rw [conf_Quiet_L0] at hm
      conv => lhs; whnf
      rcases bif_or hm with ⟨hc10, hm⟩ | ⟨hc10, hm⟩
      · simp only [hc10, List.length_map, take_map_len, cf0, cf1, cf2, cf3]
        conv => lhs; whnf
        obtain ⟨x11, hx11, hm⟩ := bind_some hm
        refine bif_pos (by first | exact idx_in hx11 | exact idx_in' hx11) ?_
        simp only [idx_nth (f := encBuf) hx11, List.length_map, take_map_len, cf0, cf1, cf2, cf3]
        conv => lhs; whnf
        rcases bif_or hm with ⟨hc12, hm⟩ | ⟨hc12, hm⟩
        · simp only [hc12, List.length_map, take_map_len, cf0, cf1, cf2, cf3]
          conv => lhs; whnf
          obtain rfl := Option.some.inj hm
          refine (hK6 _ _).trans ?_
          rw [show _ = some _ from hr8]
          conv => lhs; whnf
          try simp only [List.length_map, take_map_len]
          refine fin_eq (y := some (AV.bool (false), [])) rfl ?_
          first | rfl | (simp only [take_map_len, cf0, cf1, cf2, cf3] <;> rfl)
        · simp only [hc12, List.length_map, take_map_len, cf0, cf1, cf2, cf3]
          conv => lhs; whnf
          exact cont_eq (hcont7 (IntKind.i64.wrap (s1 + 1)) a3 hm) (by first | rfl | (simp only [List.length_map, List.map_append, List.map_cons, List.map_nil, take_map_len, List.append_nil, cf0, cf1, cf2, cf3] <;> rfl)) (by first | rfl | (simp only [List.length_map, List.map_append, List.map_cons, List.map_nil, take_map_len, List.append_nil, cf0, cf1, cf2, cf3] <;> rfl))
      · simp only [hc10, List.length_map, take_map_len, cf0, cf1, cf2, cf3]
        conv => lhs; whnf
        obtain rfl := Option.some.inj hm
        exact kont_eq (hr8 a3) (by first | rfl | (simp only [List.length_map, List.map_append, List.map_cons, List.map_nil, take_map_len, List.append_nil, cf0, cf1, cf2, cf3] <;> rfl)) (by first | rfl | (simp only [List.length_map, List.map_append, List.map_cons, List.map_nil, take_map_len, List.append_nil, cf0, cf1, cf2, cf3] <;> rfl))
    · cases o9 with
      | ret v =>
        obtain rfl := Option.some.inj hm
        rfl
      | out t =>
        intro a13
        dsimp only at hm
        conv => lhs; whnf
        obtain rfl := Option.some.inj hm
        try simp only [List.length_map, take_map_len]
        refine fin_eq (y := some (AV.bool (true), [])) rfl ?_
        first | rfl | (simp only [take_map_len, cf0, cf1, cf2, cf3] <;> rfl)

def ref09_Quiet_L0 (n : Nat)  (v0_c : ConfS) : Nat → Int → Option (LR Unit Bool)
  | 0, _ => none
  | k2+1, s1 => (bif decide (s1 < (((v0_c.buf).length : Nat) : Int)) then ((idx v0_c.buf s1).bind fun x11 => (bif decide (0 < (((x11).length : Nat) : Int)) then (some (.ret false)) else (ref09_Quiet_L0 n v0_c k2 (IntKind.i64.wrap (s1 + 1))))) else (some (.out ())))
def m_ref09_Quiet : Nat → ConfS → Option Bool
  | 0, _ => none
  | n+1, v0_c => ((ref09_Quiet_L0 n v0_c n 0).bind fun o9 => match o9 with | .out _ => (some true) | .ret v => some v)
set_option maxHeartbeats 4000000 in
theorem ok_ref09_Quiet (n : Nat) : ∀ (v0_c : ConfS) (r : Bool), m_ref09_Quiet n v0_c = some r → callN Try.prog HH XT n 38 [AV.agg (cellsC (v0_c))] [] = some (AV.bool (r), []) := by
  cases n with
  | zero => intro v0_c r hm; exact absurd hm (by intro h; cases h)
  | succ n =>
    intro v0_c r hm
    have cf0 : Program.cellsOf Try.prog 3 = 1 := by kernel_rfl
    have cf1 : Program.cellsOf Try.prog 22 = 1 := by kernel_rfl
    have cf2 : Program.cellsOf Try.prog 40 = 1 := by kernel_rfl
    have cf3 : Program.cellsOf Try.prog 42 = 2 := by kernel_rfl
    rw [m_ref09_Quiet] at hm
    refine callN_eq' Try.func38 (by rfl) rfl rfl (Nat.le_of_ble_eq_true rfl) ?_
    intro call hc
    conv => lhs; whnf
    obtain ⟨o9, ho9, hm⟩ := bind_some hm
    refine rounds_sim (σ := Int) (τ := Unit) (ν := Bool) 0 (fun s1 a3 => stOf 18 [(1, AV.ptr 0 0), (3, AV.int .i64 (s1))]) (fun s1 => [Ob.var 57 [AV.sl 1 (List.map encI (v0_c.pc)), AV.sl 1 (List.map encRow (v0_c.regs)), AV.sl 1 (List.map encI (v0_c.mem)), AV.sl 1 (List.map encBuf (v0_c.buf))]]) (fun _ a13 => stOf 18 []) (fun _ => [Ob.var 57 [AV.sl 1 (List.map encI (v0_c.pc)), AV.sl 1 (List.map encRow (v0_c.regs)), AV.sl 1 (List.map encI (v0_c.mem)), AV.sl 1 (List.map encBuf (v0_c.buf))]]) (fun v => (AV.bool (v), [])) (fun k s => ref09_Quiet_L0 n v0_c k s) (fun s => rfl) o9 ?_ n 0 (fun _ => AV.junk) _ _ ho9 ?_ (by first | rfl | (simp only [List.length_map, List.map_append, List.map_cons, List.map_nil, take_map_len, List.append_nil, cf0, cf1, cf2, cf3] <;> rfl)) (by first | rfl | (simp only [List.length_map, List.map_append, List.map_cons, List.map_nil, take_map_len, List.append_nil, cf0, cf1, cf2, cf3] <;> rfl))
    · intro k2 ss a3 K4 cont5 hK6 hcont7 hm hr8
      obtain ⟨s1, rfl⟩ : ∃ x, x = ss := ⟨_, rfl⟩
      replace hm : ref09_Quiet_L0 n v0_c (k2 + 1) s1 = some o9 := hm
      rw [ref09_Quiet_L0] at hm
      conv => lhs; whnf
      rcases bif_or hm with ⟨hc10, hm⟩ | ⟨hc10, hm⟩
      · simp only [hc10, List.length_map, take_map_len, cf0, cf1, cf2, cf3]
        conv => lhs; whnf
        obtain ⟨x11, hx11, hm⟩ := bind_some hm
        refine bif_pos (by first | exact idx_in hx11 | exact idx_in' hx11) ?_
        simp only [idx_nth (f := encBuf) hx11, List.length_map, take_map_len, cf0, cf1, cf2, cf3]
        conv => lhs; whnf
        rcases bif_or hm with ⟨hc12, hm⟩ | ⟨hc12, hm⟩
        · simp only [hc12, List.length_map, take_map_len, cf0, cf1, cf2, cf3]
          conv => lhs; whnf
          obtain rfl := Option.some.inj hm
          refine (hK6 _ _).trans ?_
          rw [show _ = some _ from hr8]
          conv => lhs; whnf
          try simp only [List.length_map, take_map_len]
          refine fin_eq (y := some (AV.bool (false), [])) rfl ?_
          first | rfl | (simp only [take_map_len, cf0, cf1, cf2, cf3] <;> rfl)
        · simp only [hc12, List.length_map, take_map_len, cf0, cf1, cf2, cf3]
          conv => lhs; whnf
          exact cont_eq (hcont7 (IntKind.i64.wrap (s1 + 1)) a3 hm) (by first | rfl | (simp only [List.length_map, List.map_append, List.map_cons, List.map_nil, take_map_len, List.append_nil, cf0, cf1, cf2, cf3] <;> rfl)) (by first | rfl | (simp only [List.length_map, List.map_append, List.map_cons, List.map_nil, take_map_len, List.append_nil, cf0, cf1, cf2, cf3] <;> rfl))
      · simp only [hc10, List.length_map, take_map_len, cf0, cf1, cf2, cf3]
        conv => lhs; whnf
        obtain rfl := Option.some.inj hm
        exact kont_eq (hr8 a3) (by first | rfl | (simp only [List.length_map, List.map_append, List.map_cons, List.map_nil, take_map_len, List.append_nil, cf0, cf1, cf2, cf3] <;> rfl)) (by first | rfl | (simp only [List.length_map, List.map_append, List.map_cons, List.map_nil, take_map_len, List.append_nil, cf0, cf1, cf2, cf3] <;> rfl))
    · cases o9 with
      | ret v =>
        obtain rfl := Option.some.inj hm
        rfl
      | out t =>
        intro a13
        dsimp only at hm
        conv => lhs; whnf
        obtain rfl := Option.some.inj hm
        try simp only [List.length_map, take_map_len]
        refine fin_eq (y := some (AV.bool (true), [])) rfl ?_
        first | rfl | (simp only [take_map_len, cf0, cf1, cf2, cf3] <;> rfl)

def m_conf_Ended : Nat → UnitS → ConfS → Int → Option Bool
  | 0, _, _, _ => none
  | n+1, v0_u, v1_c, v2_t => (bif decide (v2_t < 0) then (some false) else (bif decide ((((v0_u.code).length : Nat) : Int) ≤ v2_t) then (some false) else (bif decide ((((v1_c.pc).length : Nat) : Int) ≤ v2_t) then (some false) else ((idx v1_c.pc v2_t).bind fun x4 => (bif decide (0 ≤ x4) then ((idx v0_u.code v2_t).bind fun x6 => (bif decide (x4 < (((x6).length : Nat) : Int)) then ((idx v0_u.code v2_t).bind fun x8 => ((idx x8 x4).bind fun x9 => (some (x9.op == 22)))) else (some false))) else (some false))))))
set_option maxHeartbeats 4000000 in
theorem ok_conf_Ended (n : Nat) : ∀ (v0_u : UnitS) (v1_c : ConfS) (v2_t : Int) (r : Bool), m_conf_Ended n v0_u v1_c v2_t = some r → callN Try.prog HH XT n 41 [AV.agg (cellsU (v0_u)), AV.agg (cellsC (v1_c)), AV.int .i64 (v2_t)] [] = some (AV.bool (r), []) := by
  cases n with
  | zero => intro v0_u v1_c v2_t r hm; exact absurd hm (by intro h; cases h)
  | succ n =>
    intro v0_u v1_c v2_t r hm
    have cf0 : Program.cellsOf Try.prog 3 = 1 := by kernel_rfl
    have cf1 : Program.cellsOf Try.prog 67 = 1 := by kernel_rfl
    have cf2 : Program.cellsOf Try.prog 81 = 7 := by kernel_rfl
    have cf3 : Program.cellsOf Try.prog 134 = 3 := by kernel_rfl
    have cf4 : Program.cellsOf Try.prog 22 = 1 := by kernel_rfl
    have cf5 : Program.cellsOf Try.prog 40 = 1 := by kernel_rfl
    have cf6 : Program.cellsOf Try.prog 42 = 2 := by kernel_rfl
    rw [m_conf_Ended] at hm
    refine callN_eq' Try.func41 (by rfl) rfl rfl (Nat.le_of_ble_eq_true rfl) ?_
    intro call hc
    conv => lhs; whnf
    rcases bif_or hm with ⟨hc1, hm⟩ | ⟨hc1, hm⟩
    · simp only [hc1, List.length_map, take_map_len, cf0, cf1, cf2, cf3, cf4, cf5, cf6]
      conv => lhs; whnf
      obtain rfl := Option.some.inj hm
      try simp only [List.length_map, take_map_len]
      refine fin_eq (y := some (AV.bool (false), [])) rfl ?_
      first | rfl | (simp only [take_map_len, cf0, cf1, cf2, cf3, cf4, cf5, cf6] <;> rfl)
    · simp only [hc1, List.length_map, take_map_len, cf0, cf1, cf2, cf3, cf4, cf5, cf6]
      conv => lhs; whnf
      rcases bif_or hm with ⟨hc2, hm⟩ | ⟨hc2, hm⟩
      · simp only [hc2, List.length_map, take_map_len, cf0, cf1, cf2, cf3, cf4, cf5, cf6]
        conv => lhs; whnf
        obtain rfl := Option.some.inj hm
        try simp only [List.length_map, take_map_len]
        refine fin_eq (y := some (AV.bool (false), [])) rfl ?_
        first | rfl | (simp only [take_map_len, cf0, cf1, cf2, cf3, cf4, cf5, cf6] <;> rfl)
      · simp only [hc2, List.length_map, take_map_len, cf0, cf1, cf2, cf3, cf4, cf5, cf6]
        conv => lhs; whnf
        rcases bif_or hm with ⟨hc3, hm⟩ | ⟨hc3, hm⟩
        · simp only [hc3, List.length_map, take_map_len, cf0, cf1, cf2, cf3, cf4, cf5, cf6]
          conv => lhs; whnf
          obtain rfl := Option.some.inj hm
          try simp only [List.length_map, take_map_len]
          refine fin_eq (y := some (AV.bool (false), [])) rfl ?_
          first | rfl | (simp only [take_map_len, cf0, cf1, cf2, cf3, cf4, cf5, cf6] <;> rfl)
        · simp only [hc3, List.length_map, take_map_len, cf0, cf1, cf2, cf3, cf4, cf5, cf6]
          conv => lhs; whnf
          obtain ⟨x4, hx4, hm⟩ := bind_some hm
          refine bif_pos (by first | exact idx_in hx4 | exact idx_in' hx4) ?_
          simp only [idx_nth (f := encI) hx4, List.length_map, take_map_len, cf0, cf1, cf2, cf3, cf4, cf5, cf6]
          conv => lhs; whnf
          rcases bif_or hm with ⟨hc5, hm⟩ | ⟨hc5, hm⟩
          · simp only [hc5, List.length_map, take_map_len, cf0, cf1, cf2, cf3, cf4, cf5, cf6]
            conv => lhs; whnf
            obtain ⟨x6, hx6, hm⟩ := bind_some hm
            refine bif_pos (by first | exact idx_in hx6 | exact idx_in' hx6) ?_
            simp only [idx_nth (f := encThr) hx6, List.length_map, take_map_len, cf0, cf1, cf2, cf3, cf4, cf5, cf6]
            conv => lhs; whnf
            rcases bif_or hm with ⟨hc7, hm⟩ | ⟨hc7, hm⟩
            · simp only [hc7, List.length_map, take_map_len, cf0, cf1, cf2, cf3, cf4, cf5, cf6]
              conv => lhs; whnf
              obtain ⟨x8, hx8, hm⟩ := bind_some hm
              refine bif_pos (by first | exact idx_in hx8 | exact idx_in' hx8) ?_
              simp only [idx_nth (f := encThr) hx8, List.length_map, take_map_len, cf0, cf1, cf2, cf3, cf4, cf5, cf6]
              conv => lhs; whnf
              obtain ⟨x9, hx9, hm⟩ := bind_some hm
              refine bif_pos (by first | exact idx_in hx9 | exact idx_in' hx9) ?_
              simp only [idx_nth (f := encIn) hx9, List.length_map, take_map_len, cf0, cf1, cf2, cf3, cf4, cf5, cf6]
              conv => lhs; whnf
              obtain rfl := Option.some.inj hm
              try simp only [List.length_map, take_map_len]
              refine fin_eq (y := some (AV.bool ((x9.op == 22)), [])) rfl ?_
              first | rfl | (simp only [take_map_len, cf0, cf1, cf2, cf3, cf4, cf5, cf6] <;> rfl)
            · simp only [hc7, List.length_map, take_map_len, cf0, cf1, cf2, cf3, cf4, cf5, cf6]
              conv => lhs; whnf
              obtain rfl := Option.some.inj hm
              try simp only [List.length_map, take_map_len]
              refine fin_eq (y := some (AV.bool (false), [])) rfl ?_
              first | rfl | (simp only [take_map_len, cf0, cf1, cf2, cf3, cf4, cf5, cf6] <;> rfl)
          · simp only [hc5, List.length_map, take_map_len, cf0, cf1, cf2, cf3, cf4, cf5, cf6]
            conv => lhs; whnf
            obtain rfl := Option.some.inj hm
            try simp only [List.length_map, take_map_len]
            refine fin_eq (y := some (AV.bool (false), [])) rfl ?_
            first | rfl | (simp only [take_map_len, cf0, cf1, cf2, cf3, cf4, cf5, cf6] <;> rfl)

def m_ref09_Ended : Nat → UnitS → ConfS → Int → Option Bool
  | 0, _, _, _ => none
  | n+1, v0_u, v1_c, v2_t => (bif decide (v2_t < 0) then (some false) else (bif decide ((((v0_u.code).length : Nat) : Int) ≤ v2_t) then (some false) else (bif decide ((((v1_c.pc).length : Nat) : Int) ≤ v2_t) then (some false) else ((idx v1_c.pc v2_t).bind fun x4 => (bif decide (x4 < 0) then (some false) else ((idx v1_c.pc v2_t).bind fun x6 => ((idx v0_u.code v2_t).bind fun x7 => (bif decide ((((x7).length : Nat) : Int) ≤ x6) then (some false) else ((idx v0_u.code v2_t).bind fun x9 => ((idx v1_c.pc v2_t).bind fun x10 => ((idx x9 x10).bind fun x11 => (some (x11.op == 22)))))))))))))
set_option maxHeartbeats 4000000 in
theorem ok_ref09_Ended (n : Nat) : ∀ (v0_u : UnitS) (v1_c : ConfS) (v2_t : Int) (r : Bool), m_ref09_Ended n v0_u v1_c v2_t = some r → callN Try.prog HH XT n 42 [AV.agg (cellsU (v0_u)), AV.agg (cellsC (v1_c)), AV.int .i64 (v2_t)] [] = some (AV.bool (r), []) := by
  cases n with
  | zero => intro v0_u v1_c v2_t r hm; exact absurd hm (by intro h; cases h)
  | succ n =>
    intro v0_u v1_c v2_t r hm
    have cf0 : Program.cellsOf Try.prog 3 = 1 := by kernel_rfl
    have cf1 : Program.cellsOf Try.prog 67 = 1 := by kernel_rfl
    have cf2 : Program.cellsOf Try.prog 81 = 7 := by kernel_rfl
    have cf3 : Program.cellsOf Try.prog 134 = 3 := by kernel_rfl
    have cf4 : Program.cellsOf Try.prog 22 = 1 := by kernel_rfl
    have cf5 : Program.cellsOf Try.prog 40 = 1 := by kernel_rfl
    have cf6 : Program.cellsOf Try.prog 42 = 2 := by kernel_rfl
    rw [m_ref09_Ended] at hm
    refine callN_eq' Try.func42 (by rfl) rfl rfl (Nat.le_of_ble_eq_true rfl) ?_
    intro call hc
    conv => lhs; whnf
    rcases bif_or hm with ⟨hc1, hm⟩ | ⟨hc1, hm⟩
    · simp only [hc1, List.length_map, take_map_len, cf0, cf1, cf2, cf3, cf4, cf5, cf6]
      conv => lhs; whnf
      obtain rfl := Option.some.inj hm
      try simp only [List.length_map, take_map_len]
      refine fin_eq (y := some (AV.bool (false), [])) rfl ?_
      first | rfl | (simp only [take_map_len, cf0, cf1, cf2, cf3, cf4, cf5, cf6] <;> rfl)
    · simp only [hc1, List.length_map, take_map_len, cf0, cf1, cf2, cf3, cf4, cf5, cf6]
      conv => lhs; whnf
      rcases bif_or hm with ⟨hc2, hm⟩ | ⟨hc2, hm⟩
      · simp only [hc2, List.length_map, take_map_len, cf0, cf1, cf2, cf3, cf4, cf5, cf6]
        conv => lhs; whnf
        obtain rfl := Option.some.inj hm
        try simp only [List.length_map, take_map_len]
        refine fin_eq (y := some (AV.bool (false), [])) rfl ?_
        first | rfl | (simp only [take_map_len, cf0, cf1, cf2, cf3, cf4, cf5, cf6] <;> rfl)
      · simp only [hc2, List.length_map, take_map_len, cf0, cf1, cf2, cf3, cf4, cf5, cf6]
        conv => lhs; whnf
        rcases bif_or hm with ⟨hc3, hm⟩ | ⟨hc3, hm⟩
        · simp only [hc3, List.length_map, take_map_len, cf0, cf1, cf2, cf3, cf4, cf5, cf6]
          conv => lhs; whnf
          obtain rfl := Option.some.inj hm
          try simp only [List.length_map, take_map_len]
          refine fin_eq (y := some (AV.bool (false), [])) rfl ?_
          first | rfl | (simp only [take_map_len, cf0, cf1, cf2, cf3, cf4, cf5, cf6] <;> rfl)
        · simp only [hc3, List.length_map, take_map_len, cf0, cf1, cf2, cf3, cf4, cf5, cf6]
          conv => lhs; whnf
          obtain ⟨x4, hx4, hm⟩ := bind_some hm
          refine bif_pos (by first | exact idx_in hx4 | exact idx_in' hx4) ?_
          simp only [idx_nth (f := encI) hx4, List.length_map, take_map_len, cf0, cf1, cf2, cf3, cf4, cf5, cf6]
          conv => lhs; whnf
          rcases bif_or hm with ⟨hc5, hm⟩ | ⟨hc5, hm⟩
          · simp only [hc5, List.length_map, take_map_len, cf0, cf1, cf2, cf3, cf4, cf5, cf6]
            conv => lhs; whnf
            obtain rfl := Option.some.inj hm
            try simp only [List.length_map, take_map_len]
            refine fin_eq (y := some (AV.bool (false), [])) rfl ?_
            first | rfl | (simp only [take_map_len, cf0, cf1, cf2, cf3, cf4, cf5, cf6] <;> rfl)
          · simp only [hc5, List.length_map, take_map_len, cf0, cf1, cf2, cf3, cf4, cf5, cf6]
            conv => lhs; whnf
            obtain ⟨x6, hx6, hm⟩ := bind_some hm
            refine bif_pos (by first | exact idx_in hx6 | exact idx_in' hx6) ?_
            simp only [idx_nth (f := encI) hx6, List.length_map, take_map_len, cf0, cf1, cf2, cf3, cf4, cf5, cf6]
            conv => lhs; whnf
            obtain ⟨x7, hx7, hm⟩ := bind_some hm
            refine bif_pos (by first | exact idx_in hx7 | exact idx_in' hx7) ?_
            simp only [idx_nth (f := encThr) hx7, List.length_map, take_map_len, cf0, cf1, cf2, cf3, cf4, cf5, cf6]
            conv => lhs; whnf
            rcases bif_or hm with ⟨hc8, hm⟩ | ⟨hc8, hm⟩
            · simp only [hc8, List.length_map, take_map_len, cf0, cf1, cf2, cf3, cf4, cf5, cf6]
              conv => lhs; whnf
              obtain rfl := Option.some.inj hm
              try simp only [List.length_map, take_map_len]
              refine fin_eq (y := some (AV.bool (false), [])) rfl ?_
              first | rfl | (simp only [take_map_len, cf0, cf1, cf2, cf3, cf4, cf5, cf6] <;> rfl)
            · simp only [hc8, List.length_map, take_map_len, cf0, cf1, cf2, cf3, cf4, cf5, cf6]
              conv => lhs; whnf
              obtain ⟨x9, hx9, hm⟩ := bind_some hm
              refine bif_pos (by first | exact idx_in hx9 | exact idx_in' hx9) ?_
              simp only [idx_nth (f := encThr) hx9, List.length_map, take_map_len, cf0, cf1, cf2, cf3, cf4, cf5, cf6]
              conv => lhs; whnf
              obtain ⟨x10, hx10, hm⟩ := bind_some hm
              refine bif_pos (by first | exact idx_in hx10 | exact idx_in' hx10) ?_
              simp only [idx_nth (f := encI) hx10, List.length_map, take_map_len, cf0, cf1, cf2, cf3, cf4, cf5, cf6]
              conv => lhs; whnf
              obtain ⟨x11, hx11, hm⟩ := bind_some hm
              refine bif_pos (by first | exact idx_in hx11 | exact idx_in' hx11) ?_
              simp only [idx_nth (f := encIn) hx11, List.length_map, take_map_len, cf0, cf1, cf2, cf3, cf4, cf5, cf6]
              conv => lhs; whnf
              obtain rfl := Option.some.inj hm
              try simp only [List.length_map, take_map_len]
              refine fin_eq (y := some (AV.bool ((x11.op == 22)), [])) rfl ?_
              first | rfl | (simp only [take_map_len, cf0, cf1, cf2, cf3, cf4, cf5, cf6] <;> rfl)

def conf_Final_L0 (n : Nat)  (v0_u : UnitS) (v1_c : ConfS) : Nat → Int → Option (LR Unit Bool)
  | 0, _ => none
  | k2+1, s1 => (bif decide (s1 < (((v0_u.code).length : Nat) : Int)) then ((m_conf_Ended n v0_u v1_c s1).bind fun y11 => (bif y11 then (conf_Final_L0 n v0_u v1_c k2 (IntKind.i64.wrap (s1 + 1))) else (some (.ret false)))) else (some (.out ())))
def m_conf_Final : Nat → UnitS → ConfS → Option Bool
  | 0, _, _ => none
  | n+1, v0_u, v1_c => ((conf_Final_L0 n v0_u v1_c n 0).bind fun o9 => match o9 with | .out _ => ((m_conf_Quiet n v1_c).bind fun y15 => (some y15)) | .ret v => some v)
set_option maxHeartbeats 4000000 in
theorem ok_conf_Final (n : Nat) : ∀ (v0_u : UnitS) (v1_c : ConfS) (r : Bool), m_conf_Final n v0_u v1_c = some r → callN Try.prog HH XT n 39 [AV.agg (cellsU (v0_u)), AV.agg (cellsC (v1_c))] [] = some (AV.bool (r), []) := by
  cases n with
  | zero => intro v0_u v1_c r hm; exact absurd hm (by intro h; cases h)
  | succ n =>
    intro v0_u v1_c r hm
    have cf0 : Program.cellsOf Try.prog 3 = 1 := by kernel_rfl
    have cf1 : Program.cellsOf Try.prog 67 = 1 := by kernel_rfl
    have cf2 : Program.cellsOf Try.prog 81 = 7 := by kernel_rfl
    have cf3 : Program.cellsOf Try.prog 134 = 3 := by kernel_rfl
    have cf4 : Program.cellsOf Try.prog 22 = 1 := by kernel_rfl
    have cf5 : Program.cellsOf Try.prog 40 = 1 := by kernel_rfl
    have cf6 : Program.cellsOf Try.prog 42 = 2 := by kernel_rfl
    rw [m_conf_Final] at hm
    refine callN_eq' Try.func39 (by rfl) rfl rfl (Nat.le_of_ble_eq_true rfl) ?_
    intro call hc
    conv => lhs; whnf
    obtain ⟨o9, ho9, hm⟩ := bind_some hm
    refine rounds_sim (σ := Int) (τ := Unit) (ν := Bool) 0 (fun s1 a3 => stOf 20 [(2, AV.ptr 0 0), (3, AV.ptr 1 0), (8, AV.int .i64 ((((v0_u.code).length : Nat) : Int))), (9, AV.int .i64 (s1))]) (fun s1 => [Ob.var 25 [AV.int .i64 (v0_u.mod), AV.sl 1 (List.map encI (v0_u.init)), AV.sl 1 (List.map encI (v0_u.regs)), AV.sl 1 (List.map encThr (v0_u.code))], Ob.var 57 [AV.sl 1 (List.map encI (v1_c.pc)), AV.sl 1 (List.map encRow (v1_c.regs)), AV.sl 1 (List.map encI (v1_c.mem)), AV.sl 1 (List.map encBuf (v1_c.buf))]]) (fun _ a14 => stOf 20 [(3, AV.ptr 1 0)]) (fun _ => [Ob.var 25 [AV.int .i64 (v0_u.mod), AV.sl 1 (List.map encI (v0_u.init)), AV.sl 1 (List.map encI (v0_u.regs)), AV.sl 1 (List.map encThr (v0_u.code))], Ob.var 57 [AV.sl 1 (List.map encI (v1_c.pc)), AV.sl 1 (List.map encRow (v1_c.regs)), AV.sl 1 (List.map encI (v1_c.mem)), AV.sl 1 (List.map encBuf (v1_c.buf))]]) (fun v => (AV.bool (v), [])) (fun k s => conf_Final_L0 n v0_u v1_c k s) (fun s => rfl) o9 ?_ n 0 (fun _ => AV.junk) _ _ ho9 ?_ (by first | rfl | (simp only [List.length_map, List.map_append, List.map_cons, List.map_nil, take_map_len, List.append_nil, cf0, cf1, cf2, cf3, cf4, cf5, cf6] <;> rfl)) (by first | rfl | (simp only [List.length_map, List.map_append, List.map_cons, List.map_nil, take_map_len, List.append_nil, cf0, cf1, cf2, cf3, cf4, cf5, cf6] <;> rfl))
    · intro k2 ss a3 K4 cont5 hK6 hcont7 hm hr8
      obtain ⟨s1, rfl⟩ : ∃ x, x = ss := ⟨_, rfl⟩
      replace hm : conf_Final_L0 n v0_u v1_c (k2 + 1) s1 = some o9 := hm
      rw [conf_Final_L0] at hm
      conv => lhs; whnf
      rcases bif_or hm with ⟨hc10, hm⟩ | ⟨hc10, hm⟩
      · simp only [hc10, List.length_map, take_map_len, cf0, cf1, cf2, cf3, cf4, cf5, cf6]
        conv => lhs; whnf
        obtain ⟨y11, hy11, hm⟩ := bind_some hm
        have hk12 : call false 41 [AV.agg [AV.int .i64 (v0_u.mod), AV.sl 1 (List.map encI (v0_u.init)), AV.sl 1 (List.map encI (v0_u.regs)), AV.sl 1 (List.map encThr (v0_u.code))], AV.agg [AV.sl 1 (List.map encI (v1_c.pc)), AV.sl 1 (List.map encRow (v1_c.regs)), AV.sl 1 (List.map encI (v1_c.mem)), AV.sl 1 (List.map encBuf (v1_c.buf))], AV.int .i64 (s1)] [] = some (AV.bool (y11), []) := (hc _ _ _).trans (ok_conf_Ended n v0_u v1_c s1 y11 hy11)
        simp only [hk12, List.length_map, take_map_len, cf0, cf1, cf2, cf3, cf4, cf5, cf6]
        conv => lhs; whnf
        rcases bif_or hm with ⟨hc13, hm⟩ | ⟨hc13, hm⟩
        · simp only [hc13, List.length_map, take_map_len, cf0, cf1, cf2, cf3, cf4, cf5, cf6]
          conv => lhs; whnf
          exact cont_eq (hcont7 (IntKind.i64.wrap (s1 + 1)) a3 hm) (by first | rfl | (simp only [List.length_map, List.map_append, List.map_cons, List.map_nil, take_map_len, List.append_nil, cf0, cf1, cf2, cf3, cf4, cf5, cf6] <;> rfl)) (by first | rfl | (simp only [List.length_map, List.map_append, List.map_cons, List.map_nil, take_map_len, List.append_nil, cf0, cf1, cf2, cf3, cf4, cf5, cf6] <;> rfl))
        · simp only [hc13, List.length_map, take_map_len, cf0, cf1, cf2, cf3, cf4, cf5, cf6]
          conv => lhs; whnf
          obtain rfl := Option.some.inj hm
          refine (hK6 _ _).trans ?_
          rw [show _ = some _ from hr8]
          conv => lhs; whnf
          try simp only [List.length_map, take_map_len]
          refine fin_eq (y := some (AV.bool (false), [])) rfl ?_
          first | rfl | (simp only [take_map_len, cf0, cf1, cf2, cf3, cf4, cf5, cf6] <;> rfl)
      · simp only [hc10, List.length_map, take_map_len, cf0, cf1, cf2, cf3, cf4, cf5, cf6]
        conv => lhs; whnf
        obtain rfl := Option.some.inj hm
        exact kont_eq (hr8 a3) (by first | rfl | (simp only [List.length_map, List.map_append, List.map_cons, List.map_nil, take_map_len, List.append_nil, cf0, cf1, cf2, cf3, cf4, cf5, cf6] <;> rfl)) (by first | rfl | (simp only [List.length_map, List.map_append, List.map_cons, List.map_nil, take_map_len, List.append_nil, cf0, cf1, cf2, cf3, cf4, cf5, cf6] <;> rfl))
    · cases o9 with
      | ret v =>
        obtain rfl := Option.some.inj hm
        rfl
      | out t =>
        intro a14
        dsimp only at hm
        conv => lhs; whnf
        obtain ⟨y15, hy15, hm⟩ := bind_some hm
        have hk16 : call false 37 [AV.agg [AV.sl 1 (List.map encI (v1_c.pc)), AV.sl 1 (List.map encRow (v1_c.regs)), AV.sl 1 (List.map encI (v1_c.mem)), AV.sl 1 (List.map encBuf (v1_c.buf))]] [] = some (AV.bool (y15), []) := (hc _ _ _).trans (ok_conf_Quiet n v1_c y15 hy15)
        simp only [hk16, List.length_map, take_map_len, cf0, cf1, cf2, cf3, cf4, cf5, cf6]
        conv => lhs; whnf
        obtain rfl := Option.some.inj hm
        try simp only [List.length_map, take_map_len]
        refine fin_eq (y := some (AV.bool (y15), [])) rfl ?_
        first | rfl | (simp only [take_map_len, cf0, cf1, cf2, cf3, cf4, cf5, cf6] <;> rfl)

def ref09_Final_L0 (n : Nat)  (v0_u : UnitS) (v1_c : ConfS) : Nat → Int → Option (LR Unit Bool)
  | 0, _ => none
  | k2+1, s1 => (bif decide (s1 < (((v0_u.code).length : Nat) : Int)) then ((m_ref09_Ended n v0_u v1_c s1).bind fun y11 => (bif y11 then (ref09_Final_L0 n v0_u v1_c k2 (IntKind.i64.wrap (s1 + 1))) else (some (.ret false)))) else (some (.out ())))
def m_ref09_Final : Nat → UnitS → ConfS → Option Bool
  | 0, _, _ => none
  | n+1, v0_u, v1_c => ((ref09_Final_L0 n v0_u v1_c n 0).bind fun o9 => match o9 with | .out _ => ((m_ref09_Quiet n v1_c).bind fun y15 => (some y15)) | .ret v => some v)
set_option maxHeartbeats 4000000 in
theorem ok_ref09_Final (n : Nat) : ∀ (v0_u : UnitS) (v1_c : ConfS) (r : Bool), m_ref09_Final n v0_u v1_c = some r → callN Try.prog HH XT n 40 [AV.agg (cellsU (v0_u)), AV.agg (cellsC (v1_c))] [] = some (AV.bool (r), []) := by
  cases n with
  | zero => intro v0_u v1_c r hm; exact absurd hm (by intro h; cases h)
  | succ n =>
    intro v0_u v1_c r hm
    have cf0 : Program.cellsOf Try.prog 3 = 1 := by kernel_rfl
    have cf1 : Program.cellsOf Try.prog 67 = 1 := by kernel_rfl
    have cf2 : Program.cellsOf Try.prog 81 = 7 := by kernel_rfl
    have cf3 : Program.cellsOf Try.prog 134 = 3 := by kernel_rfl
    have cf4 : Program.cellsOf Try.prog 22 = 1 := by kernel_rfl
    have cf5 : Program.cellsOf Try.prog 40 = 1 := by kernel_rfl
    have cf6 : Program.cellsOf Try.prog 42 = 2 := by kernel_rfl
    rw [m_ref09_Final] at hm
    refine callN_eq' Try.func40 (by rfl) rfl rfl (Nat.le_of_ble_eq_true rfl) ?_
    intro call hc
    conv => lhs; whnf
    obtain ⟨o9, ho9, hm⟩ := bind_some hm
    refine rounds_sim (σ := Int) (τ := Unit) (ν := Bool) 0 (fun s1 a3 => stOf 20 [(2, AV.ptr 0 0), (3, AV.ptr 1 0), (5, AV.int .i64 (s1))]) (fun s1 => [Ob.var 25 [AV.int .i64 (v0_u.mod), AV.sl 1 (List.map encI (v0_u.init)), AV.sl 1 (List.map encI (v0_u.regs)), AV.sl 1 (List.map encThr (v0_u.code))], Ob.var 57 [AV.sl 1 (List.map encI (v1_c.pc)), AV.sl 1 (List.map encRow (v1_c.regs)), AV.sl 1 (List.map encI (v1_c.mem)), AV.sl 1 (List.map encBuf (v1_c.buf))]]) (fun _ a14 => stOf 20 [(3, AV.ptr 1 0)]) (fun _ => [Ob.var 25 [AV.int .i64 (v0_u.mod), AV.sl 1 (List.map encI (v0_u.init)), AV.sl 1 (List.map encI (v0_u.regs)), AV.sl 1 (List.map encThr (v0_u.code))], Ob.var 57 [AV.sl 1 (List.map encI (v1_c.pc)), AV.sl 1 (List.map encRow (v1_c.regs)), AV.sl 1 (List.map encI (v1_c.mem)), AV.sl 1 (List.map encBuf (v1_c.buf))]]) (fun v => (AV.bool (v), [])) (fun k s => ref09_Final_L0 n v0_u v1_c k s) (fun s => rfl) o9 ?_ n 0 (fun _ => AV.junk) _ _ ho9 ?_ (by first | rfl | (simp only [List.length_map, List.map_append, List.map_cons, List.map_nil, take_map_len, List.append_nil, cf0, cf1, cf2, cf3, cf4, cf5, cf6] <;> rfl)) (by first | rfl | (simp only [List.length_map, List.map_append, List.map_cons, List.map_nil, take_map_len, List.append_nil, cf0, cf1, cf2, cf3, cf4, cf5, cf6] <;> rfl))
    · intro k2 ss a3 K4 cont5 hK6 hcont7 hm hr8
      obtain ⟨s1, rfl⟩ : ∃ x, x = ss := ⟨_, rfl⟩
      replace hm : ref09_Final_L0 n v0_u v1_c (k2 + 1) s1 = some o9 := hm
      rw [ref09_Final_L0] at hm
      conv => lhs; whnf
      rcases bif_or hm with ⟨hc10, hm⟩ | ⟨hc10, hm⟩
      · simp only [hc10, List.length_map, take_map_len, cf0, cf1, cf2, cf3, cf4, cf5, cf6]
        conv => lhs; whnf
        obtain ⟨y11, hy11, hm⟩ := bind_some hm
        have hk12 : call false 42 [AV.agg [AV.int .i64 (v0_u.mod), AV.sl 1 (List.map encI (v0_u.init)), AV.sl 1 (List.map encI (v0_u.regs)), AV.sl 1 (List.map encThr (v0_u.code))], AV.agg [AV.sl 1 (List.map encI (v1_c.pc)), AV.sl 1 (List.map encRow (v1_c.regs)), AV.sl 1 (List.map encI (v1_c.mem)), AV.sl 1 (List.map encBuf (v1_c.buf))], AV.int .i64 (s1)] [] = some (AV.bool (y11), []) := (hc _ _ _).trans (ok_ref09_Ended n v0_u v1_c s1 y11 hy11)
        simp only [hk12, List.length_map, take_map_len, cf0, cf1, cf2, cf3, cf4, cf5, cf6]
        conv => lhs; whnf
        rcases bif_or hm with ⟨hc13, hm⟩ | ⟨hc13, hm⟩
        · simp only [hc13, List.length_map, take_map_len, cf0, cf1, cf2, cf3, cf4, cf5, cf6]
          conv => lhs; whnf
          exact cont_eq (hcont7 (IntKind.i64.wrap (s1 + 1)) a3 hm) (by first | rfl | (simp only [List.length_map, List.map_append, List.map_cons, List.map_nil, take_map_len, List.append_nil, cf0, cf1, cf2, cf3, cf4, cf5, cf6] <;> rfl)) (by first | rfl | (simp only [List.length_map, List.map_append, List.map_cons, List.map_nil, take_map_len, List.append_nil, cf0, cf1, cf2, cf3, cf4, cf5, cf6] <;> rfl))
        · simp only [hc13, List.length_map, take_map_len, cf0, cf1, cf2, cf3, cf4, cf5, cf6]
          conv => lhs; whnf
          obtain rfl := Option.some.inj hm
          refine (hK6 _ _).trans ?_
          rw [show _ = some _ from hr8]
          conv => lhs; whnf
          try simp only [List.length_map, take_map_len]
          refine fin_eq (y := some (AV.bool (false), [])) rfl ?_
          first | rfl | (simp only [take_map_len, cf0, cf1, cf2, cf3, cf4, cf5, cf6] <;> rfl)
      · simp only [hc10, List.length_map, take_map_len, cf0, cf1, cf2, cf3, cf4, cf5, cf6]
        conv => lhs; whnf
        obtain rfl := Option.some.inj hm
        exact kont_eq (hr8 a3) (by first | rfl | (simp only [List.length_map, List.map_append, List.map_cons, List.map_nil, take_map_len, List.append_nil, cf0, cf1, cf2, cf3, cf4, cf5, cf6] <;> rfl)) (by first | rfl | (simp only [List.length_map, List.map_append, List.map_cons, List.map_nil, take_map_len, List.append_nil, cf0, cf1, cf2, cf3, cf4, cf5, cf6] <;> rfl))
    · cases o9 with
      | ret v =>
        obtain rfl := Option.some.inj hm
        rfl
      | out t =>
        intro a14
        dsimp only at hm
        conv => lhs; whnf
        obtain ⟨y15, hy15, hm⟩ := bind_some hm
        have hk16 : call false 38 [AV.agg [AV.sl 1 (List.map encI (v1_c.pc)), AV.sl 1 (List.map encRow (v1_c.regs)), AV.sl 1 (List.map encI (v1_c.mem)), AV.sl 1 (List.map encBuf (v1_c.buf))]] [] = some (AV.bool (y15), []) := (hc _ _ _).trans (ok_ref09_Quiet n v1_c y15 hy15)
        simp only [hk16, List.length_map, take_map_len, cf0, cf1, cf2, cf3, cf4, cf5, cf6]
        conv => lhs; whnf
        obtain rfl := Option.some.inj hm
        try simp only [List.length_map, take_map_len]
        refine fin_eq (y := some (AV.bool (y15), [])) rfl ?_
        first | rfl | (simp only [take_map_len, cf0, cf1, cf2, cf3, cf4, cf5, cf6] <;> rfl)

def ref09_Light_L0 (n : Nat)  (v0_c : ConfS) : Nat → Int → Option (LR Unit Bool)
  | 0, _ => none
  | k6+1, s5 => (bif decide (s5 < (((v0_c.regs).length : Nat) : Int)) then ((idx v0_c.regs s5).bind fun x15 => (bif decide (20 < (((x15).length : Nat) : Int)) then (some (.ret false)) else (ref09_Light_L0 n v0_c k6 (IntKind.i64.wrap (s5 + 1))))) else (some (.out ())))
def ref09_Light_L1 (n : Nat)  (v0_c : ConfS) : Nat → Int → Option (LR Unit Bool)
  | 0, _ => none
  | k19+1, s18 => (bif decide (s18 < (((v0_c.buf).length : Nat) : Int)) then ((idx v0_c.buf s18).bind fun x28 => (bif decide (60 < (((x28).length : Nat) : Int)) then (some (.ret false)) else (ref09_Light_L1 n v0_c k19 (IntKind.i64.wrap (s18 + 1))))) else (some (.out ())))
def m_ref09_Light : Nat → ConfS → Option Bool
  | 0, _ => none
  | n+1, v0_c => (bif decide (8 < (((v0_c.pc).length : Nat) : Int)) then (some false) else (bif decide (8 < (((v0_c.regs).length : Nat) : Int)) then (some false) else (bif decide (8 < (((v0_c.buf).length : Nat) : Int)) then (some false) else (bif decide (20 < (((v0_c.mem).length : Nat) : Int)) then (some false) else ((ref09_Light_L0 n v0_c n 0).bind fun o13 => match o13 with | .out _ => ((ref09_Light_L1 n v0_c n 0).bind fun o26 => match o26 with | .out _ => (some true) | .ret v => some v) | .ret v => some v)))))
set_option maxHeartbeats 4000000 in
theorem ok_ref09_Light (n : Nat) : ∀ (v0_c : ConfS) (r : Bool), m_ref09_Light n v0_c = some r → callN Try.prog HH XT n 34 [AV.agg (cellsC (v0_c))] [] = some (AV.bool (r), []) := by
  cases n with
  | zero => intro v0_c r hm; exact absurd hm (by intro h; cases h)
  | succ n =>
    intro v0_c r hm
    have cf0 : Program.cellsOf Try.prog 3 = 1 := by kernel_rfl
    have cf1 : Program.cellsOf Try.prog 22 = 1 := by kernel_rfl
    have cf2 : Program.cellsOf Try.prog 40 = 1 := by kernel_rfl
    have cf3 : Program.cellsOf Try.prog 42 = 2 := by kernel_rfl
    rw [m_ref09_Light] at hm
    refine callN_eq' Try.func34 (by rfl) rfl rfl (Nat.le_of_ble_eq_true rfl) ?_
    intro call hc
    conv => lhs; whnf
    rcases bif_or hm with ⟨hc1, hm⟩ | ⟨hc1, hm⟩
    · simp only [hc1, List.length_map, take_map_len, cf0, cf1, cf2, cf3]
      conv => lhs; whnf
      obtain rfl := Option.some.inj hm
      try simp only [List.length_map, take_map_len]
      refine fin_eq (y := some (AV.bool (false), [])) rfl ?_
      first | rfl | (simp only [take_map_len, cf0, cf1, cf2, cf3] <;> rfl)
    · simp only [hc1, List.length_map, take_map_len, cf0, cf1, cf2, cf3]
      conv => lhs; whnf
      rcases bif_or hm with ⟨hc2, hm⟩ | ⟨hc2, hm⟩
      · simp only [hc2, List.length_map, take_map_len, cf0, cf1, cf2, cf3]
        conv => lhs; whnf
        obtain rfl := Option.some.inj hm
        try simp only [List.length_map, take_map_len]
        refine fin_eq (y := some (AV.bool (false), [])) rfl ?_
        first | rfl | (simp only [take_map_len, cf0, cf1, cf2, cf3] <;> rfl)
      · simp only [hc2, List.length_map, take_map_len, cf0, cf1, cf2, cf3]
        conv => lhs; whnf
        rcases bif_or hm with ⟨hc3, hm⟩ | ⟨hc3, hm⟩
        · simp only [hc3, List.length_map, take_map_len, cf0, cf1, cf2, cf3]
          conv => lhs; whnf
          obtain rfl := Option.some.inj hm
          try simp only [List.length_map, take_map_len]
          refine fin_eq (y := some (AV.bool (false), [])) rfl ?_
          first | rfl | (simp only [take_map_len, cf0, cf1, cf2, cf3] <;> rfl)
        · simp only [hc3, List.length_map, take_map_len, cf0, cf1, cf2, cf3]
          conv => lhs; whnf
          rcases bif_or hm with ⟨hc4, hm⟩ | ⟨hc4, hm⟩
          · simp only [hc4, List.length_map, take_map_len, cf0, cf1, cf2, cf3]
            conv => lhs; whnf
            obtain rfl := Option.some.inj hm
            try simp only [List.length_map, take_map_len]
            refine fin_eq (y := some (AV.bool (false), [])) rfl ?_
            first | rfl | (simp only [take_map_len, cf0, cf1, cf2, cf3] <;> rfl)
          · simp only [hc4, List.length_map, take_map_len, cf0, cf1, cf2, cf3]
            conv => lhs; whnf
            obtain ⟨o13, ho13, hm⟩ := bind_some hm
            refine rounds_sim (σ := Int) (τ := Unit) (ν := Bool) 0 (fun s5 a7 => stOf 55 [(1, AV.ptr 0 0), (3, AV.int .i64 (s5))]) (fun s5 => [Ob.var 57 [AV.sl 1 (List.map encI (v0_c.pc)), AV.sl 1 (List.map encRow (v0_c.regs)), AV.sl 1 (List.map encI (v0_c.mem)), AV.sl 1 (List.map encBuf (v0_c.buf))]]) (fun _ a17 => stOf 55 [(1, AV.ptr 0 0)]) (fun _ => [Ob.var 57 [AV.sl 1 (List.map encI (v0_c.pc)), AV.sl 1 (List.map encRow (v0_c.regs)), AV.sl 1 (List.map encI (v0_c.mem)), AV.sl 1 (List.map encBuf (v0_c.buf))]]) (fun v => (AV.bool (v), [])) (fun k s => ref09_Light_L0 n v0_c k s) (fun s => rfl) o13 ?_ n 0 (fun _ => AV.junk) _ _ ho13 ?_ (by first | rfl | (simp only [List.length_map, List.map_append, List.map_cons, List.map_nil, take_map_len, List.append_nil, cf0, cf1, cf2, cf3] <;> rfl)) (by first | rfl | (simp only [List.length_map, List.map_append, List.map_cons, List.map_nil, take_map_len, List.append_nil, cf0, cf1, cf2, cf3] <;> rfl))
            · intro k6 ss a7 K8 cont9 hK10 hcont11 hm hr12
              obtain ⟨s5, rfl⟩ : ∃ x, x = ss := ⟨_, rfl⟩
              replace hm : ref09_Light_L0 n v0_c (k6 + 1) s5 = some o13 := hm
              rw [ref09_Light_L0] at hm
              conv => lhs; whnf
              rcases bif_or hm with ⟨hc14, hm⟩ | ⟨hc14, hm⟩
              · simp only [hc14, List.length_map, take_map_len, cf0, cf1, cf2, cf3]
                conv => lhs; whnf
                obtain ⟨x15, hx15, hm⟩ := bind_some hm
                refine bif_pos (by first | exact idx_in hx15 | exact idx_in' hx15) ?_
                simp only [idx_nth (f := encRow) hx15, List.length_map, take_map_len, cf0, cf1, cf2, cf3]
                conv => lhs; whnf
                rcases bif_or hm with ⟨hc16, hm⟩ | ⟨hc16, hm⟩
                · simp only [hc16, List.length_map, take_map_len, cf0, cf1, cf2, cf3]
                  conv => lhs; whnf
                  obtain rfl := Option.some.inj hm
                  refine (hK10 _ _).trans ?_
                  rw [show _ = some _ from hr12]
                  conv => lhs; whnf
                  try simp only [List.length_map, take_map_len]
                  refine fin_eq (y := some (AV.bool (false), [])) rfl ?_
                  first | rfl | (simp only [take_map_len, cf0, cf1, cf2, cf3] <;> rfl)
                · simp only [hc16, List.length_map, take_map_len, cf0, cf1, cf2, cf3]
                  conv => lhs; whnf
                  exact cont_eq (hcont11 (IntKind.i64.wrap (s5 + 1)) a7 hm) (by first | rfl | (simp only [List.length_map, List.map_append, List.map_cons, List.map_nil, take_map_len, List.append_nil, cf0, cf1, cf2, cf3] <;> rfl)) (by first | rfl | (simp only [List.length_map, List.map_append, List.map_cons, List.map_nil, take_map_len, List.append_nil, cf0, cf1, cf2, cf3] <;> rfl))
              · simp only [hc14, List.length_map, take_map_len, cf0, cf1, cf2, cf3]
                conv => lhs; whnf
                obtain rfl := Option.some.inj hm
                exact kont_eq (hr12 a7) (by first | rfl | (simp only [List.length_map, List.map_append, List.map_cons, List.map_nil, take_map_len, List.append_nil, cf0, cf1, cf2, cf3] <;> rfl)) (by first | rfl | (simp only [List.length_map, List.map_append, List.map_cons, List.map_nil, take_map_len, List.append_nil, cf0, cf1, cf2, cf3] <;> rfl))
            · cases o13 with
              | ret v =>
                obtain rfl := Option.some.inj hm
                rfl
              | out t =>
                intro a17
                dsimp only at hm
                conv => lhs; whnf
                obtain ⟨o26, ho26, hm⟩ := bind_some hm
                refine rounds_sim (σ := Int) (τ := Unit) (ν := Bool) 2 (fun s18 a20 => stOf 55 [(1, AV.ptr 0 0), (4, AV.int .i64 (s18))]) (fun s18 => [Ob.var 57 [AV.sl 1 (List.map encI (v0_c.pc)), AV.sl 1 (List.map encRow (v0_c.regs)), AV.sl 1 (List.map encI (v0_c.mem)), AV.sl 1 (List.map encBuf (v0_c.buf))]]) (fun _ a30 => stOf 55 []) (fun _ => [Ob.var 57 [AV.sl 1 (List.map encI (v0_c.pc)), AV.sl 1 (List.map encRow (v0_c.regs)), AV.sl 1 (List.map encI (v0_c.mem)), AV.sl 1 (List.map encBuf (v0_c.buf))]]) (fun v => (AV.bool (v), [])) (fun k s => ref09_Light_L1 n v0_c k s) (fun s => rfl) o26 ?_ n 0 (fun _ => AV.junk) _ _ ho26 ?_ (by first | rfl | (simp only [List.length_map, List.map_append, List.map_cons, List.map_nil, take_map_len, List.append_nil, cf0, cf1, cf2, cf3] <;> rfl)) (by first | rfl | (simp only [List.length_map, List.map_append, List.map_cons, List.map_nil, take_map_len, List.append_nil, cf0, cf1, cf2, cf3] <;> rfl))
                · intro k19 ss a20 K21 cont22 hK23 hcont24 hm hr25
                  obtain ⟨s18, rfl⟩ : ∃ x, x = ss := ⟨_, rfl⟩
                  replace hm : ref09_Light_L1 n v0_c (k19 + 1) s18 = some o26 := hm
                  rw [ref09_Light_L1] at hm
                  conv => lhs; whnf
                  rcases bif_or hm with ⟨hc27, hm⟩ | ⟨hc27, hm⟩
                  · simp only [hc27, List.length_map, take_map_len, cf0, cf1, cf2, cf3]
                    conv => lhs; whnf
                    obtain ⟨x28, hx28, hm⟩ := bind_some hm
                    refine bif_pos (by first | exact idx_in hx28 | exact idx_in' hx28) ?_
                    simp only [idx_nth (f := encBuf) hx28, List.length_map, take_map_len, cf0, cf1, cf2, cf3]
                    conv => lhs; whnf
                    rcases bif_or hm with ⟨hc29, hm⟩ | ⟨hc29, hm⟩
                    · simp only [hc29, List.length_map, take_map_len, cf0, cf1, cf2, cf3]
                      conv => lhs; whnf
                      obtain rfl := Option.some.inj hm
                      refine (hK23 _ _).trans ?_
                      rw [show _ = some _ from hr25]
                      conv => lhs; whnf
                      try simp only [List.length_map, take_map_len]
                      refine fin_eq (y := some (AV.bool (false), [])) rfl ?_
                      first | rfl | (simp only [take_map_len, cf0, cf1, cf2, cf3] <;> rfl)
                    · simp only [hc29, List.length_map, take_map_len, cf0, cf1, cf2, cf3]
                      conv => lhs; whnf
                      exact cont_eq (hcont24 (IntKind.i64.wrap (s18 + 1)) a20 hm) (by first | rfl | (simp only [List.length_map, List.map_append, List.map_cons, List.map_nil, take_map_len, List.append_nil, cf0, cf1, cf2, cf3] <;> rfl)) (by first | rfl | (simp only [List.length_map, List.map_append, List.map_cons, List.map_nil, take_map_len, List.append_nil, cf0, cf1, cf2, cf3] <;> rfl))
                  · simp only [hc27, List.length_map, take_map_len, cf0, cf1, cf2, cf3]
                    conv => lhs; whnf
                    obtain rfl := Option.some.inj hm
                    exact kont_eq (hr25 a20) (by first | rfl | (simp only [List.length_map, List.map_append, List.map_cons, List.map_nil, take_map_len, List.append_nil, cf0, cf1, cf2, cf3] <;> rfl)) (by first | rfl | (simp only [List.length_map, List.map_append, List.map_cons, List.map_nil, take_map_len, List.append_nil, cf0, cf1, cf2, cf3] <;> rfl))
                · cases o26 with
                  | ret v =>
                    obtain rfl := Option.some.inj hm
                    rfl
                  | out t =>
                    intro a30
                    dsimp only at hm
                    conv => lhs; whnf
                    obtain rfl := Option.some.inj hm
                    try simp only [List.length_map, take_map_len]
                    refine fin_eq (y := some (AV.bool (true), [])) rfl ?_
                    first | rfl | (simp only [take_map_len, cf0, cf1, cf2, cf3] <;> rfl)
end Go.Proofs.Ytaocgmkcjemecaa
