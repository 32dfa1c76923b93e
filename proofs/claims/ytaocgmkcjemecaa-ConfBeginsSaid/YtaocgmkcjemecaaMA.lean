/- Models of the program's functions, and that the interpreter computes them. (Printed by gen.py.) Parts of the proofs of the laws. Conditions: none. -/
import Derived.Test.YtaocgmkcjemecaaXT
import Derived.Test.YtaocgmkcjemecaaMTr2
namespace Go.Proofs.Ytaocgmkcjemecaa
set_option linter.unusedVariables false
set_option linter.unusedSimpArgs false
set_option maxRecDepth 100000

def store_count_L0 (n : Nat)  (v0_b : (List EntryS)) (v1_loc : Int) : Nat → Int → Int → Option (LR Int Int)
  | 0, _, _ => none
  | k3+1, s1, s2 => (bif decide (s2 < (((v0_b).length : Nat) : Int)) then ((idx v0_b s2).bind fun x12 => (bif (x12.loc == v1_loc) then (store_count_L0 n v0_b v1_loc k3 (IntKind.i64.wrap (s1 + 1)) (IntKind.i64.wrap (s2 + 1))) else (store_count_L0 n v0_b v1_loc k3 s1 (IntKind.i64.wrap (s2 + 1))))) else (some (.out s1)))
def m_store_count : Nat → (List EntryS) → Int → Option Int
  | 0, _, _ => none
  | n+1, v0_b, v1_loc => ((store_count_L0 n v0_b v1_loc n 0 0).bind fun o10 => match o10 with | .out x15 => (some x15) | .ret v => some v)
set_option maxHeartbeats 4000000 in
theorem ok_store_count (n : Nat) : ∀ (v0_b : (List EntryS)) (v1_loc : Int) (r : Int), m_store_count n v0_b v1_loc = some r → callN Try.prog HH XT n 95 [AV.sl 2 (List.map encE (v0_b)), AV.int .i64 (v1_loc)] [] = some (AV.int .i64 (r), []) := by
  cases n with
  | zero => intro v0_b v1_loc r hm; exact absurd hm (by intro h; cases h)
  | succ n =>
    intro v0_b v1_loc r hm
    have cf0 : Program.cellsOf Try.prog 42 = 2 := by kernel_rfl
    rw [m_store_count] at hm
    refine callN_eq' Try.func95 (by rfl) rfl rfl (Nat.le_of_ble_eq_true rfl) ?_
    intro call hc
    conv => lhs; whnf
    obtain ⟨o10, ho10, hm⟩ := bind_some hm
    refine rounds_sim (σ := (Int × Int)) (τ := Int) (ν := Int) 0 (fun (s1, s2) a4 => stOf 22 [(1, AV.int .i64 (v1_loc)), (5, AV.int .i64 (s1)), (8, AV.sl 2 (List.map encE (v0_b))), (9, AV.int .i64 ((((v0_b).length : Nat) : Int))), (10, AV.int .i64 (s2))]) (fun (s1, s2) => []) (fun x15 a14 => stOf 22 [(5, AV.int .i64 (x15))]) (fun x15 => []) (fun v => (AV.int .i64 (v), [])) (fun k s => store_count_L0 n v0_b v1_loc k ((s).1) ((s).2)) (fun s => rfl) o10 ?_ n (0, 0) (fun _ => AV.junk) _ _ ho10 ?_ (by first | rfl | (simp only [List.length_map, List.map_append, List.map_cons, List.map_nil, take_map_len, List.append_nil, cf0] <;> rfl)) (by first | rfl | (simp only [List.length_map, List.map_append, List.map_cons, List.map_nil, take_map_len, List.append_nil, cf0] <;> rfl))
    · intro k3 ss a4 K5 cont6 hK7 hcont8 hm hr9
      obtain ⟨s1, s2⟩ := ss
      replace hm : store_count_L0 n v0_b v1_loc (k3 + 1) s1 s2 = some o10 := hm
      rw [store_count_L0] at hm
      conv => lhs; whnf
      rcases bif_or hm with ⟨hc11, hm⟩ | ⟨hc11, hm⟩
      · simp only [hc11, List.length_map, take_map_len, cf0]
        conv => lhs; whnf
        obtain ⟨x12, hx12, hm⟩ := bind_some hm
        refine bif_pos (by first | exact idx_in hx12 | exact idx_in' hx12) ?_
        simp only [idx_nth (f := encE) hx12, List.length_map, take_map_len, cf0]
        conv => lhs; whnf
        rcases bif_or hm with ⟨hc13, hm⟩ | ⟨hc13, hm⟩
        · simp only [hc13, List.length_map, take_map_len, cf0]
          conv => lhs; whnf
          exact cont_eq (hcont8 (IntKind.i64.wrap (s1 + 1), IntKind.i64.wrap (s2 + 1)) a4 hm) (by first | rfl | (simp only [List.length_map, List.map_append, List.map_cons, List.map_nil, take_map_len, List.append_nil, cf0] <;> rfl)) (by first | rfl | (simp only [List.length_map, List.map_append, List.map_cons, List.map_nil, take_map_len, List.append_nil, cf0] <;> rfl))
        · simp only [hc13, List.length_map, take_map_len, cf0]
          conv => lhs; whnf
          exact cont_eq (hcont8 (s1, IntKind.i64.wrap (s2 + 1)) a4 hm) (by first | rfl | (simp only [List.length_map, List.map_append, List.map_cons, List.map_nil, take_map_len, List.append_nil, cf0] <;> rfl)) (by first | rfl | (simp only [List.length_map, List.map_append, List.map_cons, List.map_nil, take_map_len, List.append_nil, cf0] <;> rfl))
      · simp only [hc11, List.length_map, take_map_len, cf0]
        conv => lhs; whnf
        obtain rfl := Option.some.inj hm
        exact kont_eq (hr9 a4) (by first | rfl | (simp only [List.length_map, List.map_append, List.map_cons, List.map_nil, take_map_len, List.append_nil, cf0] <;> rfl)) (by first | rfl | (simp only [List.length_map, List.map_append, List.map_cons, List.map_nil, take_map_len, List.append_nil, cf0] <;> rfl))
    · cases o10 with
      | ret v =>
        obtain rfl := Option.some.inj hm
        rfl
      | out t =>
        obtain ⟨x15, rfl⟩ : ∃ x, x = t := ⟨_, rfl⟩
        intro a14
        dsimp only at hm
        conv => lhs; whnf
        obtain rfl := Option.some.inj hm
        try simp only [List.length_map, take_map_len]
        refine fin_eq (y := some (AV.int .i64 (x15), [])) rfl ?_
        first | rfl | (simp only [take_map_len, cf0] <;> rfl)

def ref08_count_L0 (n : Nat)  (v0_b : (List EntryS)) (v1_loc : Int) : Nat → Int → Int → Option (LR Int Int)
  | 0, _, _ => none
  | k3+1, s1, s2 => (bif decide (s2 < (((v0_b).length : Nat) : Int)) then ((idx v0_b s2).bind fun x12 => (bif (x12.loc == v1_loc) then (ref08_count_L0 n v0_b v1_loc k3 (IntKind.i64.wrap (s1 + 1)) (IntKind.i64.wrap (s2 + 1))) else (ref08_count_L0 n v0_b v1_loc k3 s1 (IntKind.i64.wrap (s2 + 1))))) else (some (.out s1)))
def m_ref08_count : Nat → (List EntryS) → Int → Option Int
  | 0, _, _ => none
  | n+1, v0_b, v1_loc => ((ref08_count_L0 n v0_b v1_loc n 0 0).bind fun o10 => match o10 with | .out x15 => (some x15) | .ret v => some v)
set_option maxHeartbeats 4000000 in
theorem ok_ref08_count (n : Nat) : ∀ (v0_b : (List EntryS)) (v1_loc : Int) (r : Int), m_ref08_count n v0_b v1_loc = some r → callN Try.prog HH XT n 64 [AV.sl 2 (List.map encE (v0_b)), AV.int .i64 (v1_loc)] [] = some (AV.int .i64 (r), []) := by
  cases n with
  | zero => intro v0_b v1_loc r hm; exact absurd hm (by intro h; cases h)
  | succ n =>
    intro v0_b v1_loc r hm
    have cf0 : Program.cellsOf Try.prog 42 = 2 := by kernel_rfl
    rw [m_ref08_count] at hm
    refine callN_eq' Try.func64 (by rfl) rfl rfl (Nat.le_of_ble_eq_true rfl) ?_
    intro call hc
    conv => lhs; whnf
    obtain ⟨o10, ho10, hm⟩ := bind_some hm
    refine rounds_sim (σ := (Int × Int)) (τ := Int) (ν := Int) 0 (fun (s1, s2) a4 => stOf 23 [(0, AV.sl 2 (List.map encE (v0_b))), (1, AV.int .i64 (v1_loc)), (5, AV.int .i64 (s1)), (6, AV.int .i64 (s2))]) (fun (s1, s2) => []) (fun x15 a14 => stOf 23 [(5, AV.int .i64 (x15))]) (fun x15 => []) (fun v => (AV.int .i64 (v), [])) (fun k s => ref08_count_L0 n v0_b v1_loc k ((s).1) ((s).2)) (fun s => rfl) o10 ?_ n (0, 0) (fun _ => AV.junk) _ _ ho10 ?_ (by first | rfl | (simp only [List.length_map, List.map_append, List.map_cons, List.map_nil, take_map_len, List.append_nil, cf0] <;> rfl)) (by first | rfl | (simp only [List.length_map, List.map_append, List.map_cons, List.map_nil, take_map_len, List.append_nil, cf0] <;> rfl))
    · intro k3 ss a4 K5 cont6 hK7 hcont8 hm hr9
      obtain ⟨s1, s2⟩ := ss
      replace hm : ref08_count_L0 n v0_b v1_loc (k3 + 1) s1 s2 = some o10 := hm
      rw [ref08_count_L0] at hm
      conv => lhs; whnf
      rcases bif_or hm with ⟨hc11, hm⟩ | ⟨hc11, hm⟩
      · simp only [hc11, List.length_map, take_map_len, cf0]
        conv => lhs; whnf
        obtain ⟨x12, hx12, hm⟩ := bind_some hm
        refine bif_pos (by first | exact idx_in hx12 | exact idx_in' hx12) ?_
        simp only [idx_nth (f := encE) hx12, List.length_map, take_map_len, cf0]
        conv => lhs; whnf
        rcases bif_or hm with ⟨hc13, hm⟩ | ⟨hc13, hm⟩
        · simp only [hc13, List.length_map, take_map_len, cf0]
          conv => lhs; whnf
          exact cont_eq (hcont8 (IntKind.i64.wrap (s1 + 1), IntKind.i64.wrap (s2 + 1)) a4 hm) (by first | rfl | (simp only [List.length_map, List.map_append, List.map_cons, List.map_nil, take_map_len, List.append_nil, cf0] <;> rfl)) (by first | rfl | (simp only [List.length_map, List.map_append, List.map_cons, List.map_nil, take_map_len, List.append_nil, cf0] <;> rfl))
        · simp only [hc13, List.length_map, take_map_len, cf0]
          conv => lhs; whnf
          exact cont_eq (hcont8 (s1, IntKind.i64.wrap (s2 + 1)) a4 hm) (by first | rfl | (simp only [List.length_map, List.map_append, List.map_cons, List.map_nil, take_map_len, List.append_nil, cf0] <;> rfl)) (by first | rfl | (simp only [List.length_map, List.map_append, List.map_cons, List.map_nil, take_map_len, List.append_nil, cf0] <;> rfl))
      · simp only [hc11, List.length_map, take_map_len, cf0]
        conv => lhs; whnf
        obtain rfl := Option.some.inj hm
        exact kont_eq (hr9 a4) (by first | rfl | (simp only [List.length_map, List.map_append, List.map_cons, List.map_nil, take_map_len, List.append_nil, cf0] <;> rfl)) (by first | rfl | (simp only [List.length_map, List.map_append, List.map_cons, List.map_nil, take_map_len, List.append_nil, cf0] <;> rfl))
    · cases o10 with
      | ret v =>
        obtain rfl := Option.some.inj hm
        rfl
      | out t =>
        obtain ⟨x15, rfl⟩ : ∃ x, x = t := ⟨_, rfl⟩
        intro a14
        dsimp only at hm
        conv => lhs; whnf
        obtain rfl := Option.some.inj hm
        try simp only [List.length_map, take_map_len]
        refine fin_eq (y := some (AV.int .i64 (x15), [])) rfl ?_
        first | rfl | (simp only [take_map_len, cf0] <;> rfl)

def conf_below_L0 (n : Nat)  (v0_l : (List Int)) (v1_mod : Int) : Nat → Int → Option (LR Unit Bool)
  | 0, _ => none
  | k2+1, s1 => (bif decide (s1 < (((v0_l).length : Nat) : Int)) then ((idx v0_l s1).bind fun x11 => (bif decide (x11 < 0) then (some (.ret false)) else (bif decide (v1_mod ≤ x11) then (some (.ret false)) else (conf_below_L0 n v0_l v1_mod k2 (IntKind.i64.wrap (s1 + 1)))))) else (some (.out ())))
def m_conf_below : Nat → (List Int) → Int → Int → Option Bool
  | 0, _, _, _ => none
  | n+1, v0_l, v1_mod, v2_many => ((conf_below_L0 n v0_l v1_mod n 0).bind fun o9 => match o9 with | .out _ => (some ((((v0_l).length : Nat) : Int) == v2_many)) | .ret v => some v)
set_option maxHeartbeats 4000000 in
theorem ok_conf_below (n : Nat) : ∀ (v0_l : (List Int)) (v1_mod : Int) (v2_many : Int) (r : Bool), m_conf_below n v0_l v1_mod v2_many = some r → callN Try.prog HH XT n 73 [AV.sl 1 (List.map encI (v0_l)), AV.int .i64 (v1_mod), AV.int .i64 (v2_many)] [] = some (AV.bool (r), []) := by
  cases n with
  | zero => intro v0_l v1_mod v2_many r hm; exact absurd hm (by intro h; cases h)
  | succ n =>
    intro v0_l v1_mod v2_many r hm
    have cf0 : Program.cellsOf Try.prog 3 = 1 := by kernel_rfl
    rw [m_conf_below] at hm
    refine callN_eq' Try.func73 (by rfl) rfl rfl (Nat.le_of_ble_eq_true rfl) ?_
    intro call hc
    conv => lhs; whnf
    obtain ⟨o9, ho9, hm⟩ := bind_some hm
    refine rounds_sim (σ := Int) (τ := Unit) (ν := Bool) 0 (fun s1 a3 => stOf 27 [(0, AV.sl 1 (List.map encI (v0_l))), (1, AV.int .i64 (v1_mod)), (2, AV.int .i64 (v2_many)), (9, AV.sl 1 (List.map encI (v0_l))), (10, AV.int .i64 ((((v0_l).length : Nat) : Int))), (11, AV.int .i64 (s1))]) (fun s1 => []) (fun _ a14 => stOf 27 [(0, AV.sl 1 (List.map encI (v0_l))), (2, AV.int .i64 (v2_many))]) (fun _ => []) (fun v => (AV.bool (v), [])) (fun k s => conf_below_L0 n v0_l v1_mod k s) (fun s => rfl) o9 ?_ n 0 (fun _ => AV.junk) _ _ ho9 ?_ (by first | rfl | (simp only [List.length_map, List.map_append, List.map_cons, List.map_nil, take_map_len, List.append_nil, cf0] <;> rfl)) (by first | rfl | (simp only [List.length_map, List.map_append, List.map_cons, List.map_nil, take_map_len, List.append_nil, cf0] <;> rfl))
    · intro k2 ss a3 K4 cont5 hK6 hcont7 hm hr8
      obtain ⟨s1, rfl⟩ : ∃ x, x = ss := ⟨_, rfl⟩
      replace hm : conf_below_L0 n v0_l v1_mod (k2 + 1) s1 = some o9 := hm
      rw [conf_below_L0] at hm
      conv => lhs; whnf
      rcases bif_or hm with ⟨hc10, hm⟩ | ⟨hc10, hm⟩
      · simp only [hc10, List.length_map, take_map_len, cf0]
        conv => lhs; whnf
        obtain ⟨x11, hx11, hm⟩ := bind_some hm
        refine bif_pos (by first | exact idx_in hx11 | exact idx_in' hx11) ?_
        simp only [idx_nth (f := encI) hx11, List.length_map, take_map_len, cf0]
        conv => lhs; whnf
        rcases bif_or hm with ⟨hc12, hm⟩ | ⟨hc12, hm⟩
        · simp only [hc12, List.length_map, take_map_len, cf0]
          conv => lhs; whnf
          obtain rfl := Option.some.inj hm
          refine (hK6 _ _).trans ?_
          rw [show _ = some _ from hr8]
          conv => lhs; whnf
          try simp only [List.length_map, take_map_len]
          refine fin_eq (y := some (AV.bool (false), [])) rfl ?_
          first | rfl | (simp only [take_map_len, cf0] <;> rfl)
        · simp only [hc12, List.length_map, take_map_len, cf0]
          conv => lhs; whnf
          rcases bif_or hm with ⟨hc13, hm⟩ | ⟨hc13, hm⟩
          · simp only [hc13, List.length_map, take_map_len, cf0]
            conv => lhs; whnf
            obtain rfl := Option.some.inj hm
            refine (hK6 _ _).trans ?_
            rw [show _ = some _ from hr8]
            conv => lhs; whnf
            try simp only [List.length_map, take_map_len]
            refine fin_eq (y := some (AV.bool (false), [])) rfl ?_
            first | rfl | (simp only [take_map_len, cf0] <;> rfl)
          · simp only [hc13, List.length_map, take_map_len, cf0]
            conv => lhs; whnf
            exact cont_eq (hcont7 (IntKind.i64.wrap (s1 + 1)) a3 hm) (by first | rfl | (simp only [List.length_map, List.map_append, List.map_cons, List.map_nil, take_map_len, List.append_nil, cf0] <;> rfl)) (by first | rfl | (simp only [List.length_map, List.map_append, List.map_cons, List.map_nil, take_map_len, List.append_nil, cf0] <;> rfl))
      · simp only [hc10, List.length_map, take_map_len, cf0]
        conv => lhs; whnf
        obtain rfl := Option.some.inj hm
        exact kont_eq (hr8 a3) (by first | rfl | (simp only [List.length_map, List.map_append, List.map_cons, List.map_nil, take_map_len, List.append_nil, cf0] <;> rfl)) (by first | rfl | (simp only [List.length_map, List.map_append, List.map_cons, List.map_nil, take_map_len, List.append_nil, cf0] <;> rfl))
    · cases o9 with
      | ret v =>
        obtain rfl := Option.some.inj hm
        rfl
      | out t =>
        intro a14
        dsimp only at hm
        conv => lhs; whnf
        obtain rfl := Option.some.inj hm
        try simp only [List.length_map, take_map_len]
        refine fin_eq (y := some (AV.bool (((((v0_l).length : Nat) : Int) == v2_many)), [])) rfl ?_
        first | rfl | (simp only [take_map_len, cf0] <;> rfl)

def conf_same_int_L0 (n : Nat)  (v0_a : (List Int)) (v1_b : (List Int)) : Nat → Int → Option (LR Unit Bool)
  | 0, _ => none
  | k3+1, s2 => (bif decide (s2 < (((v0_a).length : Nat) : Int)) then ((idx v0_a s2).bind fun x12 => ((idx v1_b s2).bind fun x13 => (bif (x12 != x13) then (some (.ret false)) else (conf_same_int_L0 n v0_a v1_b k3 (IntKind.i64.wrap (s2 + 1)))))) else (some (.out ())))
def m_conf_same_int : Nat → (List Int) → (List Int) → Option Bool
  | 0, _, _ => none
  | n+1, v0_a, v1_b => (bif ((((v0_a).length : Nat) : Int) != (((v1_b).length : Nat) : Int)) then (some false) else ((conf_same_int_L0 n v0_a v1_b n 0).bind fun o10 => match o10 with | .out _ => (some true) | .ret v => some v))
set_option maxHeartbeats 4000000 in
theorem ok_conf_same_int (n : Nat) : ∀ (v0_a : (List Int)) (v1_b : (List Int)) (r : Bool), m_conf_same_int n v0_a v1_b = some r → callN Try.prog HH XT n 77 [AV.sl 1 (List.map encI (v0_a)), AV.sl 1 (List.map encI (v1_b))] [] = some (AV.bool (r), []) := by
  cases n with
  | zero => intro v0_a v1_b r hm; exact absurd hm (by intro h; cases h)
  | succ n =>
    intro v0_a v1_b r hm
    have cf0 : Program.cellsOf Try.prog 3 = 1 := by kernel_rfl
    rw [m_conf_same_int] at hm
    refine callN_eq' Try.func77 (by rfl) rfl rfl (Nat.le_of_ble_eq_true rfl) ?_
    intro call hc
    conv => lhs; whnf
    rcases bif_or hm with ⟨hc1, hm⟩ | ⟨hc1, hm⟩
    · simp only [hc1, List.length_map, take_map_len, cf0]
      conv => lhs; whnf
      obtain rfl := Option.some.inj hm
      try simp only [List.length_map, take_map_len]
      refine fin_eq (y := some (AV.bool (false), [])) rfl ?_
      first | rfl | (simp only [take_map_len, cf0] <;> rfl)
    · simp only [hc1, List.length_map, take_map_len, cf0]
      conv => lhs; whnf
      obtain ⟨o10, ho10, hm⟩ := bind_some hm
      refine rounds_sim (σ := Int) (τ := Unit) (ν := Bool) 0 (fun s2 a4 => stOf 26 [(0, AV.sl 1 (List.map encI (v0_a))), (1, AV.sl 1 (List.map encI (v1_b))), (12, AV.int .i64 ((((v0_a).length : Nat) : Int))), (13, AV.int .i64 (s2))]) (fun s2 => []) (fun _ a15 => stOf 26 []) (fun _ => []) (fun v => (AV.bool (v), [])) (fun k s => conf_same_int_L0 n v0_a v1_b k s) (fun s => rfl) o10 ?_ n 0 (fun _ => AV.junk) _ _ ho10 ?_ (by first | rfl | (simp only [List.length_map, List.map_append, List.map_cons, List.map_nil, take_map_len, List.append_nil, cf0] <;> rfl)) (by first | rfl | (simp only [List.length_map, List.map_append, List.map_cons, List.map_nil, take_map_len, List.append_nil, cf0] <;> rfl))
      · intro k3 ss a4 K5 cont6 hK7 hcont8 hm hr9
        obtain ⟨s2, rfl⟩ : ∃ x, x = ss := ⟨_, rfl⟩
        replace hm : conf_same_int_L0 n v0_a v1_b (k3 + 1) s2 = some o10 := hm
        rw [conf_same_int_L0] at hm
        conv => lhs; whnf
        rcases bif_or hm with ⟨hc11, hm⟩ | ⟨hc11, hm⟩
        · simp only [hc11, List.length_map, take_map_len, cf0]
          conv => lhs; whnf
          obtain ⟨x12, hx12, hm⟩ := bind_some hm
          refine bif_pos (by first | exact idx_in hx12 | exact idx_in' hx12) ?_
          simp only [idx_nth (f := encI) hx12, List.length_map, take_map_len, cf0]
          conv => lhs; whnf
          obtain ⟨x13, hx13, hm⟩ := bind_some hm
          refine bif_pos (by first | exact idx_in hx13 | exact idx_in' hx13) ?_
          simp only [idx_nth (f := encI) hx13, List.length_map, take_map_len, cf0]
          conv => lhs; whnf
          rcases bif_or hm with ⟨hc14, hm⟩ | ⟨hc14, hm⟩
          · simp only [hc14, List.length_map, take_map_len, cf0]
            conv => lhs; whnf
            obtain rfl := Option.some.inj hm
            refine (hK7 _ _).trans ?_
            rw [show _ = some _ from hr9]
            conv => lhs; whnf
            try simp only [List.length_map, take_map_len]
            refine fin_eq (y := some (AV.bool (false), [])) rfl ?_
            first | rfl | (simp only [take_map_len, cf0] <;> rfl)
          · simp only [hc14, List.length_map, take_map_len, cf0]
            conv => lhs; whnf
            exact cont_eq (hcont8 (IntKind.i64.wrap (s2 + 1)) a4 hm) (by first | rfl | (simp only [List.length_map, List.map_append, List.map_cons, List.map_nil, take_map_len, List.append_nil, cf0] <;> rfl)) (by first | rfl | (simp only [List.length_map, List.map_append, List.map_cons, List.map_nil, take_map_len, List.append_nil, cf0] <;> rfl))
        · simp only [hc11, List.length_map, take_map_len, cf0]
          conv => lhs; whnf
          obtain rfl := Option.some.inj hm
          exact kont_eq (hr9 a4) (by first | rfl | (simp only [List.length_map, List.map_append, List.map_cons, List.map_nil, take_map_len, List.append_nil, cf0] <;> rfl)) (by first | rfl | (simp only [List.length_map, List.map_append, List.map_cons, List.map_nil, take_map_len, List.append_nil, cf0] <;> rfl))
      · cases o10 with
        | ret v =>
          obtain rfl := Option.some.inj hm
          rfl
        | out t =>
          intro a15
          dsimp only at hm
          conv => lhs; whnf
          obtain rfl := Option.some.inj hm
          try simp only [List.length_map, take_map_len]
          refine fin_eq (y := some (AV.bool (true), [])) rfl ?_
          first | rfl | (simp only [take_map_len, cf0] <;> rfl)

def conf_same_api_Entry_L0 (n : Nat)  (v0_a : (List EntryS)) (v1_b : (List EntryS)) : Nat → Int → Option (LR Unit Bool)
  | 0, _ => none
  | k3+1, s2 => (bif decide (s2 < (((v0_a).length : Nat) : Int)) then ((idx v0_a s2).bind fun x12 => ((idx v1_b s2).bind fun x13 => (bif ((x12.loc == x13.loc) && ((x12.n == x13.n) && true)) then (conf_same_api_Entry_L0 n v0_a v1_b k3 (IntKind.i64.wrap (s2 + 1))) else (some (.ret false))))) else (some (.out ())))
def m_conf_same_api_Entry : Nat → (List EntryS) → (List EntryS) → Option Bool
  | 0, _, _ => none
  | n+1, v0_a, v1_b => (bif ((((v0_a).length : Nat) : Int) != (((v1_b).length : Nat) : Int)) then (some false) else ((conf_same_api_Entry_L0 n v0_a v1_b n 0).bind fun o10 => match o10 with | .out _ => (some true) | .ret v => some v))
set_option maxHeartbeats 4000000 in
theorem ok_conf_same_api_Entry (n : Nat) : ∀ (v0_a : (List EntryS)) (v1_b : (List EntryS)) (r : Bool), m_conf_same_api_Entry n v0_a v1_b = some r → callN Try.prog HH XT n 97 [AV.sl 2 (List.map encE (v0_a)), AV.sl 2 (List.map encE (v1_b))] [] = some (AV.bool (r), []) := by
  cases n with
  | zero => intro v0_a v1_b r hm; exact absurd hm (by intro h; cases h)
  | succ n =>
    intro v0_a v1_b r hm
    have cf0 : Program.cellsOf Try.prog 42 = 2 := by kernel_rfl
    rw [m_conf_same_api_Entry] at hm
    refine callN_eq' Try.func97 (by rfl) rfl rfl (Nat.le_of_ble_eq_true rfl) ?_
    intro call hc
    conv => lhs; whnf
    rcases bif_or hm with ⟨hc1, hm⟩ | ⟨hc1, hm⟩
    · simp only [hc1, List.length_map, take_map_len, cf0]
      conv => lhs; whnf
      obtain rfl := Option.some.inj hm
      try simp only [List.length_map, take_map_len]
      refine fin_eq (y := some (AV.bool (false), [])) rfl ?_
      first | rfl | (simp only [take_map_len, cf0] <;> rfl)
    · simp only [hc1, List.length_map, take_map_len, cf0]
      conv => lhs; whnf
      obtain ⟨o10, ho10, hm⟩ := bind_some hm
      refine rounds_sim (σ := Int) (τ := Unit) (ν := Bool) 0 (fun s2 a4 => stOf 26 [(0, AV.sl 2 (List.map encE (v0_a))), (1, AV.sl 2 (List.map encE (v1_b))), (12, AV.int .i64 ((((v0_a).length : Nat) : Int))), (13, AV.int .i64 (s2))]) (fun s2 => []) (fun _ a16 => stOf 26 []) (fun _ => []) (fun v => (AV.bool (v), [])) (fun k s => conf_same_api_Entry_L0 n v0_a v1_b k s) (fun s => rfl) o10 ?_ n 0 (fun _ => AV.junk) _ _ ho10 ?_ (by first | rfl | (simp only [List.length_map, List.map_append, List.map_cons, List.map_nil, take_map_len, List.append_nil, cf0] <;> rfl)) (by first | rfl | (simp only [List.length_map, List.map_append, List.map_cons, List.map_nil, take_map_len, List.append_nil, cf0] <;> rfl))
      · intro k3 ss a4 K5 cont6 hK7 hcont8 hm hr9
        obtain ⟨s2, rfl⟩ : ∃ x, x = ss := ⟨_, rfl⟩
        replace hm : conf_same_api_Entry_L0 n v0_a v1_b (k3 + 1) s2 = some o10 := hm
        rw [conf_same_api_Entry_L0] at hm
        conv => lhs; whnf
        rcases bif_or hm with ⟨hc11, hm⟩ | ⟨hc11, hm⟩
        · simp only [hc11, List.length_map, take_map_len, cf0]
          conv => lhs; whnf
          obtain ⟨x12, hx12, hm⟩ := bind_some hm
          refine bif_pos (by first | exact idx_in hx12 | exact idx_in' hx12) ?_
          simp only [idx_nth (f := encE) hx12, List.length_map, take_map_len, cf0]
          conv => lhs; whnf
          obtain ⟨x13, hx13, hm⟩ := bind_some hm
          refine bif_pos (by first | exact idx_in hx13 | exact idx_in' hx13) ?_
          simp only [idx_nth (f := encE) hx13, List.length_map, take_map_len, cf0]
          conv => lhs; whnf
          have hf15 : flatT Try.prog 42 = some (fieldsOf Try.prog 42) := by kernel_rfl
          simp only [hf15, List.length_map, take_map_len]
          conv => lhs; whnf
          rcases bif_or hm with ⟨hc14, hm⟩ | ⟨hc14, hm⟩
          · simp only [hc14, List.length_map, take_map_len, cf0]
            conv => lhs; whnf
            exact cont_eq (hcont8 (IntKind.i64.wrap (s2 + 1)) a4 hm) (by first | rfl | (simp only [List.length_map, List.map_append, List.map_cons, List.map_nil, take_map_len, List.append_nil, cf0] <;> rfl)) (by first | rfl | (simp only [List.length_map, List.map_append, List.map_cons, List.map_nil, take_map_len, List.append_nil, cf0] <;> rfl))
          · simp only [hc14, List.length_map, take_map_len, cf0]
            conv => lhs; whnf
            obtain rfl := Option.some.inj hm
            refine (hK7 _ _).trans ?_
            rw [show _ = some _ from hr9]
            conv => lhs; whnf
            try simp only [List.length_map, take_map_len]
            refine fin_eq (y := some (AV.bool (false), [])) rfl ?_
            first | rfl | (simp only [take_map_len, cf0] <;> rfl)
        · simp only [hc11, List.length_map, take_map_len, cf0]
          conv => lhs; whnf
          obtain rfl := Option.some.inj hm
          exact kont_eq (hr9 a4) (by first | rfl | (simp only [List.length_map, List.map_append, List.map_cons, List.map_nil, take_map_len, List.append_nil, cf0] <;> rfl)) (by first | rfl | (simp only [List.length_map, List.map_append, List.map_cons, List.map_nil, take_map_len, List.append_nil, cf0] <;> rfl))
      · cases o10 with
        | ret v =>
          obtain rfl := Option.some.inj hm
          rfl
        | out t =>
          intro a16
          dsimp only at hm
          conv => lhs; whnf
          obtain rfl := Option.some.inj hm
          try simp only [List.length_map, take_map_len]
          refine fin_eq (y := some (AV.bool (true), [])) rfl ?_
          first | rfl | (simp only [take_map_len, cf0] <;> rfl)

def ref07_Ints_L0 (n : Nat)  (v0_a : (List Int)) (v1_b : (List Int)) : Nat → Int → Option (LR Unit Bool)
  | 0, _ => none
  | k3+1, s2 => (bif decide (s2 < (((v0_a).length : Nat) : Int)) then ((idx v0_a s2).bind fun x12 => ((idx v1_b s2).bind fun x13 => (bif (x12 != x13) then (some (.ret false)) else (ref07_Ints_L0 n v0_a v1_b k3 (IntKind.i64.wrap (s2 + 1)))))) else (some (.out ())))
def m_ref07_Ints : Nat → (List Int) → (List Int) → Option Bool
  | 0, _, _ => none
  | n+1, v0_a, v1_b => (bif ((((v0_a).length : Nat) : Int) != (((v1_b).length : Nat) : Int)) then (some false) else ((ref07_Ints_L0 n v0_a v1_b n 0).bind fun o10 => match o10 with | .out _ => (some true) | .ret v => some v))
set_option maxHeartbeats 4000000 in
theorem ok_ref07_Ints (n : Nat) : ∀ (v0_a : (List Int)) (v1_b : (List Int)) (r : Bool), m_ref07_Ints n v0_a v1_b = some r → callN Try.prog HH XT n 71 [AV.sl 1 (List.map encI (v0_a)), AV.sl 1 (List.map encI (v1_b))] [] = some (AV.bool (r), []) := by
  cases n with
  | zero => intro v0_a v1_b r hm; exact absurd hm (by intro h; cases h)
  | succ n =>
    intro v0_a v1_b r hm
    have cf0 : Program.cellsOf Try.prog 3 = 1 := by kernel_rfl
    rw [m_ref07_Ints] at hm
    refine callN_eq' Try.func71 (by rfl) rfl rfl (Nat.le_of_ble_eq_true rfl) ?_
    intro call hc
    conv => lhs; whnf
    rcases bif_or hm with ⟨hc1, hm⟩ | ⟨hc1, hm⟩
    · simp only [hc1, List.length_map, take_map_len, cf0]
      conv => lhs; whnf
      obtain rfl := Option.some.inj hm
      try simp only [List.length_map, take_map_len]
      refine fin_eq (y := some (AV.bool (false), [])) rfl ?_
      first | rfl | (simp only [take_map_len, cf0] <;> rfl)
    · simp only [hc1, List.length_map, take_map_len, cf0]
      conv => lhs; whnf
      obtain ⟨o10, ho10, hm⟩ := bind_some hm
      refine rounds_sim (σ := Int) (τ := Unit) (ν := Bool) 0 (fun s2 a4 => stOf 26 [(0, AV.sl 1 (List.map encI (v0_a))), (1, AV.sl 1 (List.map encI (v1_b))), (5, AV.int .i64 (s2))]) (fun s2 => []) (fun _ a15 => stOf 26 []) (fun _ => []) (fun v => (AV.bool (v), [])) (fun k s => ref07_Ints_L0 n v0_a v1_b k s) (fun s => rfl) o10 ?_ n 0 (fun _ => AV.junk) _ _ ho10 ?_ (by first | rfl | (simp only [List.length_map, List.map_append, List.map_cons, List.map_nil, take_map_len, List.append_nil, cf0] <;> rfl)) (by first | rfl | (simp only [List.length_map, List.map_append, List.map_cons, List.map_nil, take_map_len, List.append_nil, cf0] <;> rfl))
      · intro k3 ss a4 K5 cont6 hK7 hcont8 hm hr9
        obtain ⟨s2, rfl⟩ : ∃ x, x = ss := ⟨_, rfl⟩
        replace hm : ref07_Ints_L0 n v0_a v1_b (k3 + 1) s2 = some o10 := hm
        rw [ref07_Ints_L0] at hm
        conv => lhs; whnf
        rcases bif_or hm with ⟨hc11, hm⟩ | ⟨hc11, hm⟩
        · simp only [hc11, List.length_map, take_map_len, cf0]
          conv => lhs; whnf
          obtain ⟨x12, hx12, hm⟩ := bind_some hm
          refine bif_pos (by first | exact idx_in hx12 | exact idx_in' hx12) ?_
          simp only [idx_nth (f := encI) hx12, List.length_map, take_map_len, cf0]
          conv => lhs; whnf
          obtain ⟨x13, hx13, hm⟩ := bind_some hm
          refine bif_pos (by first | exact idx_in hx13 | exact idx_in' hx13) ?_
          simp only [idx_nth (f := encI) hx13, List.length_map, take_map_len, cf0]
          conv => lhs; whnf
          rcases bif_or hm with ⟨hc14, hm⟩ | ⟨hc14, hm⟩
          · simp only [hc14, List.length_map, take_map_len, cf0]
            conv => lhs; whnf
            obtain rfl := Option.some.inj hm
            refine (hK7 _ _).trans ?_
            rw [show _ = some _ from hr9]
            conv => lhs; whnf
            try simp only [List.length_map, take_map_len]
            refine fin_eq (y := some (AV.bool (false), [])) rfl ?_
            first | rfl | (simp only [take_map_len, cf0] <;> rfl)
          · simp only [hc14, List.length_map, take_map_len, cf0]
            conv => lhs; whnf
            exact cont_eq (hcont8 (IntKind.i64.wrap (s2 + 1)) a4 hm) (by first | rfl | (simp only [List.length_map, List.map_append, List.map_cons, List.map_nil, take_map_len, List.append_nil, cf0] <;> rfl)) (by first | rfl | (simp only [List.length_map, List.map_append, List.map_cons, List.map_nil, take_map_len, List.append_nil, cf0] <;> rfl))
        · simp only [hc11, List.length_map, take_map_len, cf0]
          conv => lhs; whnf
          obtain rfl := Option.some.inj hm
          exact kont_eq (hr9 a4) (by first | rfl | (simp only [List.length_map, List.map_append, List.map_cons, List.map_nil, take_map_len, List.append_nil, cf0] <;> rfl)) (by first | rfl | (simp only [List.length_map, List.map_append, List.map_cons, List.map_nil, take_map_len, List.append_nil, cf0] <;> rfl))
      · cases o10 with
        | ret v =>
          obtain rfl := Option.some.inj hm
          rfl
        | out t =>
          intro a15
          dsimp only at hm
          conv => lhs; whnf
          obtain rfl := Option.some.inj hm
          try simp only [List.length_map, take_map_len]
          refine fin_eq (y := some (AV.bool (true), [])) rfl ?_
          first | rfl | (simp only [take_map_len, cf0] <;> rfl)

def ref08_Same_L0 (n : Nat)  (v0_a : (List EntryS)) (v1_b : (List EntryS)) : Nat → Int → Option (LR Unit Bool)
  | 0, _ => none
  | k3+1, s2 => (bif decide (s2 < (((v0_a).length : Nat) : Int)) then ((idx v0_a s2).bind fun x12 => ((idx v1_b s2).bind fun x13 => (bif ((x12.loc == x13.loc) && ((x12.n == x13.n) && true)) then (ref08_Same_L0 n v0_a v1_b k3 (IntKind.i64.wrap (s2 + 1))) else (some (.ret false))))) else (some (.out ())))
def m_ref08_Same : Nat → (List EntryS) → (List EntryS) → Option Bool
  | 0, _, _ => none
  | n+1, v0_a, v1_b => (bif ((((v0_a).length : Nat) : Int) != (((v1_b).length : Nat) : Int)) then (some false) else ((ref08_Same_L0 n v0_a v1_b n 0).bind fun o10 => match o10 with | .out _ => (some true) | .ret v => some v))
set_option maxHeartbeats 4000000 in
theorem ok_ref08_Same (n : Nat) : ∀ (v0_a : (List EntryS)) (v1_b : (List EntryS)) (r : Bool), m_ref08_Same n v0_a v1_b = some r → callN Try.prog HH XT n 72 [AV.sl 2 (List.map encE (v0_a)), AV.sl 2 (List.map encE (v1_b))] [] = some (AV.bool (r), []) := by
  cases n with
  | zero => intro v0_a v1_b r hm; exact absurd hm (by intro h; cases h)
  | succ n =>
    intro v0_a v1_b r hm
    have cf0 : Program.cellsOf Try.prog 42 = 2 := by kernel_rfl
    rw [m_ref08_Same] at hm
    refine callN_eq' Try.func72 (by rfl) rfl rfl (Nat.le_of_ble_eq_true rfl) ?_
    intro call hc
    conv => lhs; whnf
    rcases bif_or hm with ⟨hc1, hm⟩ | ⟨hc1, hm⟩
    · simp only [hc1, List.length_map, take_map_len, cf0]
      conv => lhs; whnf
      obtain rfl := Option.some.inj hm
      try simp only [List.length_map, take_map_len]
      refine fin_eq (y := some (AV.bool (false), [])) rfl ?_
      first | rfl | (simp only [take_map_len, cf0] <;> rfl)
    · simp only [hc1, List.length_map, take_map_len, cf0]
      conv => lhs; whnf
      obtain ⟨o10, ho10, hm⟩ := bind_some hm
      refine rounds_sim (σ := Int) (τ := Unit) (ν := Bool) 0 (fun s2 a4 => stOf 26 [(0, AV.sl 2 (List.map encE (v0_a))), (1, AV.sl 2 (List.map encE (v1_b))), (5, AV.int .i64 (s2))]) (fun s2 => []) (fun _ a16 => stOf 26 []) (fun _ => []) (fun v => (AV.bool (v), [])) (fun k s => ref08_Same_L0 n v0_a v1_b k s) (fun s => rfl) o10 ?_ n 0 (fun _ => AV.junk) _ _ ho10 ?_ (by first | rfl | (simp only [List.length_map, List.map_append, List.map_cons, List.map_nil, take_map_len, List.append_nil, cf0] <;> rfl)) (by first | rfl | (simp only [List.length_map, List.map_append, List.map_cons, List.map_nil, take_map_len, List.append_nil, cf0] <;> rfl))
      · intro k3 ss a4 K5 cont6 hK7 hcont8 hm hr9
        obtain ⟨s2, rfl⟩ : ∃ x, x = ss := ⟨_, rfl⟩
        replace hm : ref08_Same_L0 n v0_a v1_b (k3 + 1) s2 = some o10 := hm
        rw [ref08_Same_L0] at hm
        conv => lhs; whnf
        rcases bif_or hm with ⟨hc11, hm⟩ | ⟨hc11, hm⟩
        · simp only [hc11, List.length_map, take_map_len, cf0]
          conv => lhs; whnf
          obtain ⟨x12, hx12, hm⟩ := bind_some hm
          refine bif_pos (by first | exact idx_in hx12 | exact idx_in' hx12) ?_
          simp only [idx_nth (f := encE) hx12, List.length_map, take_map_len, cf0]
          conv => lhs; whnf
          obtain ⟨x13, hx13, hm⟩ := bind_some hm
          refine bif_pos (by first | exact idx_in hx13 | exact idx_in' hx13) ?_
          simp only [idx_nth (f := encE) hx13, List.length_map, take_map_len, cf0]
          conv => lhs; whnf
          have hf15 : flatT Try.prog 42 = some (fieldsOf Try.prog 42) := by kernel_rfl
          simp only [hf15, List.length_map, take_map_len]
          conv => lhs; whnf
          rcases bif_or hm with ⟨hc14, hm⟩ | ⟨hc14, hm⟩
          · simp only [hc14, List.length_map, take_map_len, cf0]
            conv => lhs; whnf
            exact cont_eq (hcont8 (IntKind.i64.wrap (s2 + 1)) a4 hm) (by first | rfl | (simp only [List.length_map, List.map_append, List.map_cons, List.map_nil, take_map_len, List.append_nil, cf0] <;> rfl)) (by first | rfl | (simp only [List.length_map, List.map_append, List.map_cons, List.map_nil, take_map_len, List.append_nil, cf0] <;> rfl))
          · simp only [hc14, List.length_map, take_map_len, cf0]
            conv => lhs; whnf
            obtain rfl := Option.some.inj hm
            refine (hK7 _ _).trans ?_
            rw [show _ = some _ from hr9]
            conv => lhs; whnf
            try simp only [List.length_map, take_map_len]
            refine fin_eq (y := some (AV.bool (false), [])) rfl ?_
            first | rfl | (simp only [take_map_len, cf0] <;> rfl)
        · simp only [hc11, List.length_map, take_map_len, cf0]
          conv => lhs; whnf
          obtain rfl := Option.some.inj hm
          exact kont_eq (hr9 a4) (by first | rfl | (simp only [List.length_map, List.map_append, List.map_cons, List.map_nil, take_map_len, List.append_nil, cf0] <;> rfl)) (by first | rfl | (simp only [List.length_map, List.map_append, List.map_cons, List.map_nil, take_map_len, List.append_nil, cf0] <;> rfl))
      · cases o10 with
        | ret v =>
          obtain rfl := Option.some.inj hm
          rfl
        | out t =>
          intro a16
          dsimp only at hm
          conv => lhs; whnf
          obtain rfl := Option.some.inj hm
          try simp only [List.length_map, take_map_len]
          refine fin_eq (y := some (AV.bool (true), [])) rfl ?_
          first | rfl | (simp only [take_map_len, cf0] <;> rfl)

def m_ref06_in : Nat → Int → Int → Option Bool
  | 0, _, _ => none
  | n+1, v0_n, v1_most => (bif decide (0 ≤ v0_n) then (some (decide (v0_n < v1_most))) else (some false))
set_option maxHeartbeats 4000000 in
theorem ok_ref06_in (n : Nat) : ∀ (v0_n : Int) (v1_most : Int) (r : Bool), m_ref06_in n v0_n v1_most = some r → callN Try.prog HH XT n 85 [AV.int .i64 (v0_n), AV.int .i64 (v1_most)] [] = some (AV.bool (r), []) := by
  cases n with
  | zero => intro v0_n v1_most r hm; exact absurd hm (by intro h; cases h)
  | succ n =>
    intro v0_n v1_most r hm
    rw [m_ref06_in] at hm
    refine callN_eq' Try.func85 (by rfl) rfl rfl (Nat.le_of_ble_eq_true rfl) ?_
    intro call hc
    conv => lhs; whnf
    rcases bif_or hm with ⟨hc1, hm⟩ | ⟨hc1, hm⟩
    · simp only [hc1, List.length_map, take_map_len]
      conv => lhs; whnf
      obtain rfl := Option.some.inj hm
      try simp only [List.length_map, take_map_len]
      refine fin_eq (y := some (AV.bool (decide (v0_n < v1_most)), [])) rfl ?_
      first | rfl | (simp only [take_map_len] <;> rfl)
    · simp only [hc1, List.length_map, take_map_len]
      conv => lhs; whnf
      obtain rfl := Option.some.inj hm
      try simp only [List.length_map, take_map_len]
      refine fin_eq (y := some (AV.bool (false), [])) rfl ?_
      first | rfl | (simp only [take_map_len] <;> rfl)

def ref06_All_L0 (n : Nat)  (v0_l : (List Int)) (v1_mod : Int) : Nat → Int → Option (LR Unit Bool)
  | 0, _ => none
  | k2+1, s1 => (bif decide (s1 < (((v0_l).length : Nat) : Int)) then ((idx v0_l s1).bind fun x11 => ((m_ref06_in n x11 v1_mod).bind fun y12 => (bif y12 then (ref06_All_L0 n v0_l v1_mod k2 (IntKind.i64.wrap (s1 + 1))) else (some (.ret false))))) else (some (.out ())))
def m_ref06_All : Nat → (List Int) → Int → Option Bool
  | 0, _, _ => none
  | n+1, v0_l, v1_mod => ((ref06_All_L0 n v0_l v1_mod n 0).bind fun o9 => match o9 with | .out _ => (some true) | .ret v => some v)
set_option maxHeartbeats 4000000 in
theorem ok_ref06_All (n : Nat) : ∀ (v0_l : (List Int)) (v1_mod : Int) (r : Bool), m_ref06_All n v0_l v1_mod = some r → callN Try.prog HH XT n 59 [AV.sl 1 (List.map encI (v0_l)), AV.int .i64 (v1_mod)] [] = some (AV.bool (r), []) := by
  cases n with
  | zero => intro v0_l v1_mod r hm; exact absurd hm (by intro h; cases h)
  | succ n =>
    intro v0_l v1_mod r hm
    have cf0 : Program.cellsOf Try.prog 3 = 1 := by kernel_rfl
    rw [m_ref06_All] at hm
    refine callN_eq' Try.func59 (by rfl) rfl rfl (Nat.le_of_ble_eq_true rfl) ?_
    intro call hc
    conv => lhs; whnf
    obtain ⟨o9, ho9, hm⟩ := bind_some hm
    refine rounds_sim (σ := Int) (τ := Unit) (ν := Bool) 0 (fun s1 a3 => stOf 19 [(0, AV.sl 1 (List.map encI (v0_l))), (1, AV.int .i64 (v1_mod)), (5, AV.int .i64 (s1))]) (fun s1 => []) (fun _ a15 => stOf 19 []) (fun _ => []) (fun v => (AV.bool (v), [])) (fun k s => ref06_All_L0 n v0_l v1_mod k s) (fun s => rfl) o9 ?_ n 0 (fun _ => AV.junk) _ _ ho9 ?_ (by first | rfl | (simp only [List.length_map, List.map_append, List.map_cons, List.map_nil, take_map_len, List.append_nil, cf0] <;> rfl)) (by first | rfl | (simp only [List.length_map, List.map_append, List.map_cons, List.map_nil, take_map_len, List.append_nil, cf0] <;> rfl))
    · intro k2 ss a3 K4 cont5 hK6 hcont7 hm hr8
      obtain ⟨s1, rfl⟩ : ∃ x, x = ss := ⟨_, rfl⟩
      replace hm : ref06_All_L0 n v0_l v1_mod (k2 + 1) s1 = some o9 := hm
      rw [ref06_All_L0] at hm
      conv => lhs; whnf
      rcases bif_or hm with ⟨hc10, hm⟩ | ⟨hc10, hm⟩
      · simp only [hc10, List.length_map, take_map_len, cf0]
        conv => lhs; whnf
        obtain ⟨x11, hx11, hm⟩ := bind_some hm
        refine bif_pos (by first | exact idx_in hx11 | exact idx_in' hx11) ?_
        simp only [idx_nth (f := encI) hx11, List.length_map, take_map_len, cf0]
        conv => lhs; whnf
        obtain ⟨y12, hy12, hm⟩ := bind_some hm
        have hk13 : call false 85 [AV.int .i64 (x11), AV.int .i64 (v1_mod)] [] = some (AV.bool (y12), []) := (hc _ _ _).trans (ok_ref06_in n x11 v1_mod y12 hy12)
        simp only [hk13, List.length_map, take_map_len, cf0]
        conv => lhs; whnf
        rcases bif_or hm with ⟨hc14, hm⟩ | ⟨hc14, hm⟩
        · simp only [hc14, List.length_map, take_map_len, cf0]
          conv => lhs; whnf
          exact cont_eq (hcont7 (IntKind.i64.wrap (s1 + 1)) a3 hm) (by first | rfl | (simp only [List.length_map, List.map_append, List.map_cons, List.map_nil, take_map_len, List.append_nil, cf0] <;> rfl)) (by first | rfl | (simp only [List.length_map, List.map_append, List.map_cons, List.map_nil, take_map_len, List.append_nil, cf0] <;> rfl))
        · simp only [hc14, List.length_map, take_map_len, cf0]
          conv => lhs; whnf
          obtain rfl := Option.some.inj hm
          refine (hK6 _ _).trans ?_
          rw [show _ = some _ from hr8]
          conv => lhs; whnf
          try simp only [List.length_map, take_map_len]
          refine fin_eq (y := some (AV.bool (false), [])) rfl ?_
          first | rfl | (simp only [take_map_len, cf0] <;> rfl)
      · simp only [hc10, List.length_map, take_map_len, cf0]
        conv => lhs; whnf
        obtain rfl := Option.some.inj hm
        exact kont_eq (hr8 a3) (by first | rfl | (simp only [List.length_map, List.map_append, List.map_cons, List.map_nil, take_map_len, List.append_nil, cf0] <;> rfl)) (by first | rfl | (simp only [List.length_map, List.map_append, List.map_cons, List.map_nil, take_map_len, List.append_nil, cf0] <;> rfl))
    · cases o9 with
      | ret v =>
        obtain rfl := Option.some.inj hm
        rfl
      | out t =>
        intro a15
        dsimp only at hm
        conv => lhs; whnf
        obtain rfl := Option.some.inj hm
        try simp only [List.length_map, take_map_len]
        refine fin_eq (y := some (AV.bool (true), [])) rfl ?_
        first | rfl | (simp only [take_map_len, cf0] <;> rfl)
end Go.Proofs.Ytaocgmkcjemecaa
