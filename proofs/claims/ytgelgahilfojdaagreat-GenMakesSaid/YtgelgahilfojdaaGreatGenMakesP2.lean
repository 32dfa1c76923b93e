/- Parts of the proofs: what they lean on. Conditions: none. -/
import Derived.KernelRfl
import Derived.Test.YtgelgahilfojdaaGreatGenMakesP1
set_option linter.unusedSimpArgs false
set_option linter.unusedVariables false
section
namespace Go.Proofs.YtgelgahilfojdaaGreat
set_option linter.unusedVariables false
set_option maxRecDepth 100000
set_option maxHeartbeats 1000000
def dgT (n : Nat) : List UInt8 := bif Nat.ble n 9 then [UInt8.ofNat (48 + n)] else [49, UInt8.ofNat (38 + n)]
def bodyT (k n : Nat) : List UInt8 := match m_ref26_body 99 k n with
  | some x => x
  | none => []
def locsT (k : Nat) : List UInt8 := match m_ref26_locs 99 k with
  | some x => x
  | none => []
def accS (b : List UInt8) : Nat → Nat → List UInt8 → List UInt8
  | 0, _, s => s
  | j + 1, i, s => accS b j (i + 1) (((((s ++ ([32,116,104,114,101,97,100,32] : List UInt8)) ++ (([116] : List UInt8) ++ dgT i)) ++ ([32,123,32] : List UInt8)) ++ b) ++ ([32,125] : List UInt8))
def accM : Nat → Nat → List UInt8 → List UInt8
  | 0, _, s => s
  | j + 1, i, s => accM j (i + 1) (bif Nat.ble i 0 then (s ++ (([116] : List UInt8) ++ dgT i)) ++ ([46,99,115] : List UInt8) else ((s ++ ([32,43,32] : List UInt8)) ++ (([116] : List UInt8) ++ dgT i)) ++ ([46,99,115] : List UInt8))
theorem dg_m : ∀ i, i < 17 → m_ref01_Digits 2999 (i : Nat) = some (dgT i) ∧ (dgT i).length ≤ 2 := by decide +kernel
theorem body_m : ∀ k, k < 4 → ∀ n, n < 5 → m_ref26_body 2999 (k : Nat) (n : Nat) = some (bodyT k n) ∧ (bodyT k n).length ≤ 300 := by decide +kernel
theorem locs_m : ∀ k, k < 4 → m_ref26_locs 2999 (k : Nat) = some (locsT k) ∧ (locsT k).length ≤ 300 := by decide +kernel
theorem L0_26 {k n : Nat} {b : List UInt8} (hb : m_ref26_body 2999 k n = some b) (hl : b.length ≤ 300) (hn : n ≤ 4) : ∀ (j f i : Nat) (s sum : List UInt8), i + j = n → j < f → s.length ≤ 1000 * (i + 1) → sum.length ≤ 100 * (i + 1) → ref26_Make_L0 2999 k n f s sum i = some (.out (accS b j i s, accM j i sum)) ∧ (accS b j i s).length ≤ 1000 * (n + 1) ∧ (accM j i sum).length ≤ 100 * (n + 1) := by
  intro j
  induction j with
  | zero =>
    intro f i s sum hi hf hs hm
    obtain ⟨f, rfl⟩ : ∃ g, f = g + 1 := ⟨f - 1, by omega⟩
    rw [ref26_Make_L0, bif_not (by omega)]
    refine ⟨rfl, ?_, ?_⟩ <;> simp only [accS, accM] <;> omega
  | succ j ih =>
    intro f i s sum hi hf hs hm
    obtain ⟨f, rfl⟩ : ∃ g, f = g + 1 := ⟨f - 1, by omega⟩
    obtain ⟨hd, hdl⟩ := dg_m i (by omega)
    rw [ref26_Make_L0, bif_decide (by omega), hd, Option.bind_some]
    iterate 4 rw [bif_decide (by simp only [List.length_append, List.length_cons, List.length_nil]; omega)]
    rw [hb, Option.bind_some]
    iterate 2 rw [bif_decide (by simp only [List.length_append, List.length_cons, List.length_nil]; omega)]
    have h1 : IntKind.i64.wrap ((i : Int) + 1) = ((i + 1 : Nat) : Int) := by rw [wrap64 (by omega)]; omega
    by_cases h0 : i = 0
    · rw [bif_not (by omega)]
      iterate 2 rw [bif_decide (by simp only [List.length_append, List.length_cons, List.length_nil]; omega)]
      rw [h1]
      have hx : Nat.ble i 0 = true := by rw [h0]; rfl
      simp only [accS, accM, hx, cond_true]
      exact ih f (i + 1) _ _ (by omega) (by omega) (by simp only [List.length_append, List.length_cons, List.length_nil]; omega) (by simp only [List.length_append, List.length_cons, List.length_nil]; omega)
    · rw [bif_decide (by omega)]
      iterate 3 rw [bif_decide (by simp only [List.length_append, List.length_cons, List.length_nil]; omega)]
      rw [h1]
      have hx : Nat.ble i 0 = false := by rw [Bool.eq_false_iff]; intro h; exact h0 (by have := Nat.le_of_ble_eq_true h; omega)
      simp only [accS, accM, hx, cond_false]
      exact ih f (i + 1) _ _ (by omega) (by omega) (by simp only [List.length_append, List.length_cons, List.length_nil]; omega) (by simp only [List.length_append, List.length_cons, List.length_nil]; omega)
def headT (k m : Nat) : List UInt8 := ((([109,111,100,32] : List UInt8) ++ dgT m) ++ ([59,32] : List UInt8)) ++ locsT k
def txtT (k n m : Nat) : List UInt8 := bif Nat.ble k 2
  then (((((accS (bodyT k n) n 0 (headT k m) ++ ([32,97,108,119,97,121,115,32,40] : List UInt8)) ++ accM n 0 []) ++ ([41,32,60,61,32,49,59] : List UInt8)) ++ ([32,102,111,114,97,108,108,32,99,32,61,61,32] : List UInt8)) ++ dgT n) ++ ([59] : List UInt8)
  else ((accS (bodyT k n) n 0 (headT k m) ++ ([32,102,111,114,97,108,108,32,99,32,61,61,32] : List UInt8)) ++ dgT n) ++ ([59] : List UInt8)
theorem make26 {k n m : Nat} (hk : 1 ≤ k) (hk3 : k ≤ 3) (hn : 1 ≤ n) (hn4 : n ≤ 4) (hm : n < m) (hm16 : m ≤ 16) : m_ref26_Make 3000 k n m = (m_ref04_Parse 2999 (txtT k n m)).bind fun y => (m_ref04_Bare 2999 y.1).bind fun z => some (z, y.2.1) := by
  obtain ⟨hd, hdl⟩ := dg_m m (by omega)
  obtain ⟨hd', hdl'⟩ := dg_m n (by omega)
  obtain ⟨hb, hbl⟩ := body_m k (by omega) n (by omega)
  obtain ⟨hc, hcl⟩ := locs_m k (by omega)
  rw [m_ref26_Make]
  iterate 6 rw [bif_not (by omega)]
  rw [hd, Option.bind_some]
  iterate 2 rw [bif_decide (by simp only [List.length_append, List.length_cons, List.length_nil]; omega)]
  rw [hc, Option.bind_some, bif_decide (by simp only [List.length_append, List.length_cons, List.length_nil]; omega)]
  have hh : (headT k m).length ≤ 1000 * (0 + 1) := by simp only [headT, List.length_append, List.length_cons, List.length_nil]; omega
  obtain ⟨h1, h2, h3⟩ := L0_26 hb hbl hn4 n 2999 0 (headT k m) [] (by omega) (by omega) hh (by simp)
  have h1' : ref26_Make_L0 2999 k n 2999 (((([109,111,100,32] : List UInt8) ++ dgT m) ++ ([59,32] : List UInt8)) ++ locsT k) ([] : List UInt8) 0 = some (.out (accS (bodyT k n) n 0 (headT k m), accM n 0 [])) := h1
  rw [h1', Option.bind_some]
  dsimp only
  by_cases h : k ≤ 2
  · rw [bif_decide (by omega)]
    iterate 4 rw [bif_decide (by simp only [List.length_append, List.length_cons, List.length_nil]; omega)]
    rw [hd', Option.bind_some]
    iterate 2 rw [bif_decide (by simp only [List.length_append, List.length_cons, List.length_nil]; omega)]
    rw [txtT, Nat.ble_eq_true_of_le h, cond_true]
  · rw [bif_not (by omega), bif_decide (by simp only [List.length_append, List.length_cons, List.length_nil]; omega)]
    rw [hd', Option.bind_some]
    iterate 2 rw [bif_decide (by simp only [List.length_append, List.length_cons, List.length_nil]; omega)]
    have hx : Nat.ble k 2 = false := by rw [Bool.eq_false_iff]; intro h'; exact h (Nat.le_of_ble_eq_true h')
    rw [txtT, hx, cond_false]
end Go.Proofs.YtgelgahilfojdaaGreat
end
section
namespace Go.Proofs.YtgelgahilfojdaaGreat
set_option linter.unusedVariables false
set_option maxRecDepth 100000
set_option maxHeartbeats 1000000
theorem lex1 {f p : Nat} {l t : List UInt8} {c : UInt8} {acc : List Tok} {g k n v : Nat} (hg : gapS false l = g) (hd : l.drop g = c :: t) (ho : oneL (c :: t) = .tok k n v) {tx r : List UInt8} (h1 : (c :: t).take n = tx) (h2 : (c :: t).drop n = r) : lexFrom (f + 1) l p acc = lexFrom f r (p + g + n) (acc ++ [⟨k, tx, v, (p + g : Nat)⟩]) := by
  rw [lexFrom, hg, hd]; dsimp only; rw [ho]; dsimp only; rw [h1, h2]
theorem num_m (r : List UInt8) : ∀ m, m < 17 → gapS false (32 :: (dgT m ++ 59 :: r)) = 1 ∧ oneL (dgT m ++ 59 :: r) = .tok 2 (dgT m).length m ∧ (dgT m ++ 59 :: r).take (dgT m).length = dgT m ∧ (dgT m ++ 59 :: r).drop (dgT m).length = 59 :: r
  | 0, _ | 1, _ | 2, _ | 3, _ | 4, _ | 5, _ | 6, _ | 7, _ | 8, _ | 9, _ | 10, _ | 11, _ | 12, _ | 13, _ | 14, _ | 15, _ | 16, _ => by refine ⟨?_, ?_, ?_, ?_⟩ <;> kernel_rfl
  | m + 17, h => by omega
theorem dg_cons : ∀ m, m < 17 → ∃ c t, dgT m = c :: t := by
  intro m hm; unfold dgT; cases Nat.ble m 9 <;> exact ⟨_, _, rfl⟩
theorem lex2 (f m : Nat) (r : List UInt8) (hm : m < 17) : lexFrom (f + 1 + 1) (109 :: 111 :: 100 :: 32 :: (dgT m ++ 59 :: r)) 0 [] = lexFrom f (59 :: r) (4 + (dgT m).length) [⟨1, [109, 111, 100], 0, 0⟩, ⟨2, dgT m, m, 4⟩] := by
  obtain ⟨h1, h2, h3, h4⟩ := num_m r m hm
  obtain ⟨c, t, hc⟩ := dg_cons m hm
  rw [lex1 (g := 0) (k := 1) (n := 3) (v := 0) (c := 109) (t := 111 :: 100 :: 32 :: (dgT m ++ 59 :: r)) (tx := [109, 111, 100]) (r := 32 :: (dgT m ++ 59 :: r)) (by kernel_rfl) rfl (by kernel_rfl) rfl rfl]
  rw [lex1 (g := 1) (k := 2) (n := (dgT m).length) (v := m) (c := c) (t := t ++ 59 :: r) (tx := dgT m) (r := 59 :: r) h1 (by rw [hc]; rfl) (by rw [hc] at h2 ⊢; exact h2) (by rw [hc] at h3 ⊢; exact h3) (by rw [hc] at h4 ⊢; exact h4)]
  rfl
def restT (k n : Nat) : List UInt8 := bif Nat.ble k 2
  then 32 :: (locsT k ++ (accS (bodyT k n) n 0 [] ++ ([32,97,108,119,97,121,115,32,40] ++ (accM n 0 [] ++ ([41,32,60,61,32,49,59] ++ ([32,102,111,114,97,108,108,32,99,32,61,61,32] ++ (dgT n ++ [59])))))))
  else 32 :: (locsT k ++ (accS (bodyT k n) n 0 [] ++ ([32,102,111,114,97,108,108,32,99,32,61,61,32] ++ (dgT n ++ [59]))))
theorem accS_app (b : List UInt8) : ∀ (j i : Nat) (s t : List UInt8), accS b j i (s ++ t) = s ++ accS b j i t := by
  intro j
  induction j with
  | zero => intro i s t; rfl
  | succ j ih => intro i s t; simp only [accS, List.append_assoc]; exact ih _ _ _
theorem txt_rest (k n m : Nat) : txtT k n m = 109 :: 111 :: 100 :: 32 :: (dgT m ++ 59 :: restT k n) := by
  have h : headT k m = headT k m ++ [] := (List.append_nil _).symm
  unfold txtT restT
  rw [h, accS_app]
  cases Nat.ble k 2 <;> simp [headT]
theorem rest_len : ∀ k, k < 4 → ∀ n, n < 5 → (restT k n).length ≤ 900 := by decide +kernel
end Go.Proofs.YtgelgahilfojdaaGreat
end
section
namespace Go.Proofs.YtgelgahilfojdaaGreat
set_option linter.unusedVariables false
set_option maxRecDepth 100000
set_option maxHeartbeats 1000000
def parT (n : Nat) (y1 : List S_api_Token × Int × Int) : Option (S_api_Prog × Int × Int) :=
  (bif (y1.2.1 != 0) then (some ((⟨0,([]:List S_api_Var),([]:List S_api_Thread),([]:List S_api_Claim)⟩:S_api_Prog),y1.2.1,y1.2.2)) else ((m_ref04_state_key n ([109,111,100]:List UInt8) y1.1 0 0 0).bind fun y4=>(bif y4 then ((m_ref04_state_number n y1.1 (IntKind.i64.wrap ((0:Int)+1)) 0 0).bind fun y7=>((m_ref04_state_sign n ([59]:List UInt8) y1.1 y7.2.1 y7.2.2.1 y7.2.2.2).bind fun y9=>((ref04_Parse_L0 n y1 n y9.1 y9.2.1 y9.2.2 ([]:List S_api_Var)).bind fun o22=>match o22 with|.out (x38,x39,x40,x41)=>((ref04_Parse_L1 n y1 n x38 x39 x40 ([]:List S_api_Thread)).bind fun o53=>match o53 with|.out (x62,x63,x64,x65)=>((ref04_Parse_L2 n y1 n x62 x63 x64 ([]:List S_api_Claim)).bind fun o77=>match o77 with|.out (x88,x89,x90,x91)=>(bif decide (x88<((y1.1.length:Nat):Int)) then ((m_ref04_state_wrong n y1.1 x88 x89 x90).bind fun y93=>(bif (y93.1 != 0) then (some ((⟨0,([]:List S_api_Var),([]:List S_api_Thread),([]:List S_api_Claim)⟩:S_api_Prog),y93.1,y93.2)) else (some ((⟨y7.1,x41,x65,x91⟩:S_api_Prog),0,0)))) else (bif (x89 != 0) then (some ((⟨0,([]:List S_api_Var),([]:List S_api_Thread),([]:List S_api_Claim)⟩:S_api_Prog),x89,x90)) else (some ((⟨y7.1,x41,x65,x91⟩:S_api_Prog),0,0))))|.ret v=>some v)|.ret v=>some v)|.ret v=>some v))) else ((m_ref04_state_wrong n y1.1 0 0 0).bind fun y100=>((m_ref04_state_number n y1.1 0 y100.1 y100.2).bind fun y102=>((m_ref04_state_sign n ([59]:List UInt8) y1.1 y102.2.1 y102.2.2.1 y102.2.2.2).bind fun y104=>((ref04_Parse_L3 n y1 n y104.1 y104.2.1 y104.2.2 ([]:List S_api_Var)).bind fun o117=>match o117 with|.out (x133,x134,x135,x136)=>((ref04_Parse_L4 n y1 n x133 x134 x135 ([]:List S_api_Thread)).bind fun o148=>match o148 with|.out (x157,x158,x159,x160)=>((ref04_Parse_L5 n y1 n x157 x158 x159 ([]:List S_api_Claim)).bind fun o172=>match o172 with|.out (x183,x184,x185,x186)=>(bif decide (x183<((y1.1.length:Nat):Int)) then ((m_ref04_state_wrong n y1.1 x183 x184 x185).bind fun y188=>(bif (y188.1 != 0) then (some ((⟨0,([]:List S_api_Var),([]:List S_api_Thread),([]:List S_api_Claim)⟩:S_api_Prog),y188.1,y188.2)) else (some ((⟨y102.1,x136,x160,x186⟩:S_api_Prog),0,0)))) else (bif (x184 != 0) then (some ((⟨0,([]:List S_api_Var),([]:List S_api_Thread),([]:List S_api_Claim)⟩:S_api_Prog),x184,x185)) else (some ((⟨y102.1,x136,x160,x186⟩:S_api_Prog),0,0))))|.ret v=>some v)|.ret v=>some v)|.ret v=>some v)))))))
theorem parse_par (n : Nat) (s : List UInt8) (hs : s.length < 1000000) (hn : s.length + 50 < n) : m_ref04_Parse (n + 1) s = parT n (resS (scanL s)) := by
  rw [m_ref04_Parse, scan_m n s hs hn, Option.bind_some]; rfl
def showR (n : Nat) (v0_p : S_api_Prog) (y4 : List UInt8) : Option (List UInt8) :=
  (bif decide ((([109,111,100,32]:List UInt8)).length+y4.length≤140737488355328) then (bif decide (((([109,111,100,32]:List UInt8)++y4)).length+(([59,10]:List UInt8)).length≤140737488355328) then ((ref04_Show_L0 n v0_p n ((([109,111,100,32]:List UInt8)++y4)++([59,10]:List UInt8)) 0).bind fun o17=>match o17 with|.out x29=>((ref04_Show_L1 n v0_p n x29 0).bind fun o39=>match o39 with|.out x77=>((ref04_Show_L3 n v0_p n x77 0).bind fun o87=>match o87 with|.out x100=>(some x100)|.ret v=>some v)|.ret v=>some v)|.ret v=>some v) else none) else none)
def showP (n : Nat) (v0_p : S_api_Prog) (y4 : List UInt8) : Option (List UInt8) :=
  (bif decide ((([109,111,100,32]:List UInt8)).length+y4.length≤140737488355328) then (bif decide (((([109,111,100,32]:List UInt8)++y4)).length+(([59,10]:List UInt8)).length≤140737488355328) then ((prog_Show_L0 n v0_p n ((([109,111,100,32]:List UInt8)++y4)++([59,10]:List UInt8)) 0).bind fun o17=>match o17 with|.out x28=>((prog_Show_L1 n v0_p n x28 0).bind fun o38=>match o38 with|.out x73=>((prog_Show_L3 n v0_p n x73 0).bind fun o83=>match o83 with|.out x95=>(some x95)|.ret v=>some v)|.ret v=>some v)|.ret v=>some v) else none) else none)
def sameR (n : Nat) (v0_a v1_b : S_api_Prog) (v2_places : Bool) : Option Bool :=
  (bif (((v0_a.f_Locs.length:Nat):Int) != ((v1_b.f_Locs.length:Nat):Int)) then (some false) else (bif (((v0_a.f_Threads.length:Nat):Int) != ((v1_b.f_Threads.length:Nat):Int)) then (some false) else (bif (((v0_a.f_Claims.length:Nat):Int) != ((v1_b.f_Claims.length:Nat):Int)) then (some false) else ((ref04_Same_L0 n v0_a v1_b n v2_places 0).bind fun o14=>match o14 with|.out x27=>((ref04_Same_L1 n v0_a v1_b n x27 0).bind fun o37=>match o37 with|.out x79=>((ref04_Same_L4 n v0_a v1_b n x79 0).bind fun o89=>match o89 with|.out _=>(some true)|.ret v=>some v)|.ret v=>some v)|.ret v=>some v))))
theorem show_R (n : Nat) (p : S_api_Prog) {y : List UInt8} (h1 : m_ref04_Right n p = some true) (h2 : m_ref01_Digits n p.f_Mod = some y) : m_ref04_Show (n + 1) p = showR n p y := by
  rw [m_ref04_Show, h1, Option.bind_some, cond_true, h2, Option.bind_some]; rfl
theorem show_P (n : Nat) (p : S_api_Prog) {y : List UInt8} (h1 : m_prog_Right n p = some true) (h2 : m_prog_decimal n p.f_Mod = some y) : m_prog_Show (n + 1) p = showP n p y := by
  rw [m_prog_Show, h1, Option.bind_some, cond_true, h2, Option.bind_some]; rfl
def gpT (k n : Nat) (m : Int) : S_api_Prog := match m_gen_Make 2999 k n 16 with
  | some y => ⟨m, y.1.f_Locs, y.1.f_Threads, y.1.f_Claims⟩
  | none => ⟨0, [], [], []⟩
def afterT (y : S_api_Prog × Int × Int) : Option (S_api_Prog × Int) := (m_ref04_Bare 2999 y.1).bind fun z => some (z, y.2.1)
def headK (d : List UInt8) (m : Int) : List Tok := [⟨1, [109, 111, 100], 0, 0⟩, ⟨2, d, m, 4⟩]
def restS (k n : Nat) : List UInt8 := match showP 2998 (gpT k n 16) [49, 54] with
  | some x => x.drop 7
  | none => []
end Go.Proofs.YtgelgahilfojdaaGreat
end
section
namespace Go.Proofs.YtgelgahilfojdaaGreat
set_option linter.unusedVariables false
set_option maxRecDepth 100000
set_option maxHeartbeats 1000000
set_option Elab.async false
set_option synthInstance.maxHeartbeats 4000000
set_option synthInstance.maxSize 10000
theorem fin_1_1 (p : Nat) (d : List UInt8) (m : Int) : (parT 2998 (resS (lexFrom 1000 (59 :: restT 1 1) p (headK d m)))).bind afterT = some (gpT 1 1 m, 0) := by kernel_rfl
theorem sp_1_1_1 (m : Int) (a : UInt8) : showP 2998 (gpT 1 1 m) [a] = some (109 :: 111 :: 100 :: 32 :: ([a] ++ 59 :: restS 1 1)) := by kernel_rfl
theorem sr_1_1_1 (m : Int) (a : UInt8) : showR 2999 (gpT 1 1 m) [a] = some (109 :: 111 :: 100 :: 32 :: ([a] ++ 59 :: restS 1 1)) := by kernel_rfl
theorem sp_1_1_2 (m : Int) (a b : UInt8) : showP 2998 (gpT 1 1 m) [a, b] = some (109 :: 111 :: 100 :: 32 :: ([a, b] ++ 59 :: restS 1 1)) := by kernel_rfl
theorem sr_1_1_2 (m : Int) (a b : UInt8) : showR 2999 (gpT 1 1 m) [a, b] = some (109 :: 111 :: 100 :: 32 :: ([a, b] ++ 59 :: restS 1 1)) := by kernel_rfl
theorem fin_1_2 (p : Nat) (d : List UInt8) (m : Int) : (parT 2998 (resS (lexFrom 1000 (59 :: restT 1 2) p (headK d m)))).bind afterT = some (gpT 1 2 m, 0) := by kernel_rfl
theorem sp_1_2_1 (m : Int) (a : UInt8) : showP 2998 (gpT 1 2 m) [a] = some (109 :: 111 :: 100 :: 32 :: ([a] ++ 59 :: restS 1 2)) := by kernel_rfl
theorem sr_1_2_1 (m : Int) (a : UInt8) : showR 2999 (gpT 1 2 m) [a] = some (109 :: 111 :: 100 :: 32 :: ([a] ++ 59 :: restS 1 2)) := by kernel_rfl
theorem sp_1_2_2 (m : Int) (a b : UInt8) : showP 2998 (gpT 1 2 m) [a, b] = some (109 :: 111 :: 100 :: 32 :: ([a, b] ++ 59 :: restS 1 2)) := by kernel_rfl
theorem sr_1_2_2 (m : Int) (a b : UInt8) : showR 2999 (gpT 1 2 m) [a, b] = some (109 :: 111 :: 100 :: 32 :: ([a, b] ++ 59 :: restS 1 2)) := by kernel_rfl
theorem fin_1_3 (p : Nat) (d : List UInt8) (m : Int) : (parT 2998 (resS (lexFrom 1000 (59 :: restT 1 3) p (headK d m)))).bind afterT = some (gpT 1 3 m, 0) := by kernel_rfl
theorem sp_1_3_1 (m : Int) (a : UInt8) : showP 2998 (gpT 1 3 m) [a] = some (109 :: 111 :: 100 :: 32 :: ([a] ++ 59 :: restS 1 3)) := by kernel_rfl
theorem sr_1_3_1 (m : Int) (a : UInt8) : showR 2999 (gpT 1 3 m) [a] = some (109 :: 111 :: 100 :: 32 :: ([a] ++ 59 :: restS 1 3)) := by kernel_rfl
theorem sp_1_3_2 (m : Int) (a b : UInt8) : showP 2998 (gpT 1 3 m) [a, b] = some (109 :: 111 :: 100 :: 32 :: ([a, b] ++ 59 :: restS 1 3)) := by kernel_rfl
theorem sr_1_3_2 (m : Int) (a b : UInt8) : showR 2999 (gpT 1 3 m) [a, b] = some (109 :: 111 :: 100 :: 32 :: ([a, b] ++ 59 :: restS 1 3)) := by kernel_rfl
theorem fin_1_4 (p : Nat) (d : List UInt8) (m : Int) : (parT 2998 (resS (lexFrom 1000 (59 :: restT 1 4) p (headK d m)))).bind afterT = some (gpT 1 4 m, 0) := by kernel_rfl
theorem sp_1_4_1 (m : Int) (a : UInt8) : showP 2998 (gpT 1 4 m) [a] = some (109 :: 111 :: 100 :: 32 :: ([a] ++ 59 :: restS 1 4)) := by kernel_rfl
theorem sr_1_4_1 (m : Int) (a : UInt8) : showR 2999 (gpT 1 4 m) [a] = some (109 :: 111 :: 100 :: 32 :: ([a] ++ 59 :: restS 1 4)) := by kernel_rfl
theorem sp_1_4_2 (m : Int) (a b : UInt8) : showP 2998 (gpT 1 4 m) [a, b] = some (109 :: 111 :: 100 :: 32 :: ([a, b] ++ 59 :: restS 1 4)) := by kernel_rfl
theorem sr_1_4_2 (m : Int) (a b : UInt8) : showR 2999 (gpT 1 4 m) [a, b] = some (109 :: 111 :: 100 :: 32 :: ([a, b] ++ 59 :: restS 1 4)) := by kernel_rfl
theorem gen_1 : ∀ n : Nat, n < 5 → ∀ m : Nat, m < 17 → 0 < n → n < m → m_gen_Make 3000 1 n m = some (gpT 1 n m, 0) ∧ m_gen_Make 2999 1 n m = some (gpT 1 n m, 0) := by decide +kernel
theorem right_1 : ∀ n : Nat, n < 5 → ∀ m : Nat, m < 17 → 0 < n → n < m → m_prog_Right 2998 (gpT 1 n m) = some true ∧ m_ref04_Right 2999 (gpT 1 n m) = some true := by decide +kernel
theorem same_1 : ∀ n : Nat, n < 5 → ∀ m : Nat, m < 17 → 0 < n → n < m → m_ref04_Same 3000 (gpT 1 n m) (gpT 1 n m) true = some true := by decide +kernel
theorem many_1 : ∀ n : Nat, n < 5 → 0 < n → (gpT 1 n 16).f_Threads.length = n := by decide +kernel
end Go.Proofs.YtgelgahilfojdaaGreat
end
section
namespace Go.Proofs.YtgelgahilfojdaaGreat
set_option linter.unusedVariables false
set_option maxRecDepth 100000
set_option maxHeartbeats 1000000
set_option Elab.async false
set_option synthInstance.maxHeartbeats 4000000
set_option synthInstance.maxSize 10000
theorem fin_2_1 (p : Nat) (d : List UInt8) (m : Int) : (parT 2998 (resS (lexFrom 1000 (59 :: restT 2 1) p (headK d m)))).bind afterT = some (gpT 2 1 m, 0) := by kernel_rfl
theorem sp_2_1_1 (m : Int) (a : UInt8) : showP 2998 (gpT 2 1 m) [a] = some (109 :: 111 :: 100 :: 32 :: ([a] ++ 59 :: restS 2 1)) := by kernel_rfl
theorem sr_2_1_1 (m : Int) (a : UInt8) : showR 2999 (gpT 2 1 m) [a] = some (109 :: 111 :: 100 :: 32 :: ([a] ++ 59 :: restS 2 1)) := by kernel_rfl
theorem sp_2_1_2 (m : Int) (a b : UInt8) : showP 2998 (gpT 2 1 m) [a, b] = some (109 :: 111 :: 100 :: 32 :: ([a, b] ++ 59 :: restS 2 1)) := by kernel_rfl
theorem sr_2_1_2 (m : Int) (a b : UInt8) : showR 2999 (gpT 2 1 m) [a, b] = some (109 :: 111 :: 100 :: 32 :: ([a, b] ++ 59 :: restS 2 1)) := by kernel_rfl
theorem fin_2_2 (p : Nat) (d : List UInt8) (m : Int) : (parT 2998 (resS (lexFrom 1000 (59 :: restT 2 2) p (headK d m)))).bind afterT = some (gpT 2 2 m, 0) := by kernel_rfl
theorem sp_2_2_1 (m : Int) (a : UInt8) : showP 2998 (gpT 2 2 m) [a] = some (109 :: 111 :: 100 :: 32 :: ([a] ++ 59 :: restS 2 2)) := by kernel_rfl
theorem sr_2_2_1 (m : Int) (a : UInt8) : showR 2999 (gpT 2 2 m) [a] = some (109 :: 111 :: 100 :: 32 :: ([a] ++ 59 :: restS 2 2)) := by kernel_rfl
theorem sp_2_2_2 (m : Int) (a b : UInt8) : showP 2998 (gpT 2 2 m) [a, b] = some (109 :: 111 :: 100 :: 32 :: ([a, b] ++ 59 :: restS 2 2)) := by kernel_rfl
theorem sr_2_2_2 (m : Int) (a b : UInt8) : showR 2999 (gpT 2 2 m) [a, b] = some (109 :: 111 :: 100 :: 32 :: ([a, b] ++ 59 :: restS 2 2)) := by kernel_rfl
theorem fin_2_3 (p : Nat) (d : List UInt8) (m : Int) : (parT 2998 (resS (lexFrom 1000 (59 :: restT 2 3) p (headK d m)))).bind afterT = some (gpT 2 3 m, 0) := by kernel_rfl
theorem sp_2_3_1 (m : Int) (a : UInt8) : showP 2998 (gpT 2 3 m) [a] = some (109 :: 111 :: 100 :: 32 :: ([a] ++ 59 :: restS 2 3)) := by kernel_rfl
theorem sr_2_3_1 (m : Int) (a : UInt8) : showR 2999 (gpT 2 3 m) [a] = some (109 :: 111 :: 100 :: 32 :: ([a] ++ 59 :: restS 2 3)) := by kernel_rfl
theorem sp_2_3_2 (m : Int) (a b : UInt8) : showP 2998 (gpT 2 3 m) [a, b] = some (109 :: 111 :: 100 :: 32 :: ([a, b] ++ 59 :: restS 2 3)) := by kernel_rfl
theorem sr_2_3_2 (m : Int) (a b : UInt8) : showR 2999 (gpT 2 3 m) [a, b] = some (109 :: 111 :: 100 :: 32 :: ([a, b] ++ 59 :: restS 2 3)) := by kernel_rfl
theorem fin_2_4 (p : Nat) (d : List UInt8) (m : Int) : (parT 2998 (resS (lexFrom 1000 (59 :: restT 2 4) p (headK d m)))).bind afterT = some (gpT 2 4 m, 0) := by kernel_rfl
theorem sp_2_4_1 (m : Int) (a : UInt8) : showP 2998 (gpT 2 4 m) [a] = some (109 :: 111 :: 100 :: 32 :: ([a] ++ 59 :: restS 2 4)) := by kernel_rfl
theorem sr_2_4_1 (m : Int) (a : UInt8) : showR 2999 (gpT 2 4 m) [a] = some (109 :: 111 :: 100 :: 32 :: ([a] ++ 59 :: restS 2 4)) := by kernel_rfl
theorem sp_2_4_2 (m : Int) (a b : UInt8) : showP 2998 (gpT 2 4 m) [a, b] = some (109 :: 111 :: 100 :: 32 :: ([a, b] ++ 59 :: restS 2 4)) := by kernel_rfl
theorem sr_2_4_2 (m : Int) (a b : UInt8) : showR 2999 (gpT 2 4 m) [a, b] = some (109 :: 111 :: 100 :: 32 :: ([a, b] ++ 59 :: restS 2 4)) := by kernel_rfl
theorem gen_2 : ∀ n : Nat, n < 5 → ∀ m : Nat, m < 17 → 0 < n → n < m → m_gen_Make 3000 2 n m = some (gpT 2 n m, 0) ∧ m_gen_Make 2999 2 n m = some (gpT 2 n m, 0) := by decide +kernel
theorem right_2 : ∀ n : Nat, n < 5 → ∀ m : Nat, m < 17 → 0 < n → n < m → m_prog_Right 2998 (gpT 2 n m) = some true ∧ m_ref04_Right 2999 (gpT 2 n m) = some true := by decide +kernel
theorem same_2 : ∀ n : Nat, n < 5 → ∀ m : Nat, m < 17 → 0 < n → n < m → m_ref04_Same 3000 (gpT 2 n m) (gpT 2 n m) true = some true := by decide +kernel
theorem many_2 : ∀ n : Nat, n < 5 → 0 < n → (gpT 2 n 16).f_Threads.length = n := by decide +kernel
end Go.Proofs.YtgelgahilfojdaaGreat
end
section
namespace Go.Proofs.YtgelgahilfojdaaGreat
set_option linter.unusedVariables false
set_option maxRecDepth 100000
set_option maxHeartbeats 1000000
set_option Elab.async false
set_option synthInstance.maxHeartbeats 4000000
set_option synthInstance.maxSize 10000
theorem fin_3_1 (p : Nat) (d : List UInt8) (m : Int) : (parT 2998 (resS (lexFrom 1000 (59 :: restT 3 1) p (headK d m)))).bind afterT = some (gpT 3 1 m, 0) := by kernel_rfl
theorem sp_3_1_1 (m : Int) (a : UInt8) : showP 2998 (gpT 3 1 m) [a] = some (109 :: 111 :: 100 :: 32 :: ([a] ++ 59 :: restS 3 1)) := by kernel_rfl
theorem sr_3_1_1 (m : Int) (a : UInt8) : showR 2999 (gpT 3 1 m) [a] = some (109 :: 111 :: 100 :: 32 :: ([a] ++ 59 :: restS 3 1)) := by kernel_rfl
theorem sp_3_1_2 (m : Int) (a b : UInt8) : showP 2998 (gpT 3 1 m) [a, b] = some (109 :: 111 :: 100 :: 32 :: ([a, b] ++ 59 :: restS 3 1)) := by kernel_rfl
theorem sr_3_1_2 (m : Int) (a b : UInt8) : showR 2999 (gpT 3 1 m) [a, b] = some (109 :: 111 :: 100 :: 32 :: ([a, b] ++ 59 :: restS 3 1)) := by kernel_rfl
theorem fin_3_2 (p : Nat) (d : List UInt8) (m : Int) : (parT 2998 (resS (lexFrom 1000 (59 :: restT 3 2) p (headK d m)))).bind afterT = some (gpT 3 2 m, 0) := by kernel_rfl
theorem sp_3_2_1 (m : Int) (a : UInt8) : showP 2998 (gpT 3 2 m) [a] = some (109 :: 111 :: 100 :: 32 :: ([a] ++ 59 :: restS 3 2)) := by kernel_rfl
theorem sr_3_2_1 (m : Int) (a : UInt8) : showR 2999 (gpT 3 2 m) [a] = some (109 :: 111 :: 100 :: 32 :: ([a] ++ 59 :: restS 3 2)) := by kernel_rfl
theorem sp_3_2_2 (m : Int) (a b : UInt8) : showP 2998 (gpT 3 2 m) [a, b] = some (109 :: 111 :: 100 :: 32 :: ([a, b] ++ 59 :: restS 3 2)) := by kernel_rfl
theorem sr_3_2_2 (m : Int) (a b : UInt8) : showR 2999 (gpT 3 2 m) [a, b] = some (109 :: 111 :: 100 :: 32 :: ([a, b] ++ 59 :: restS 3 2)) := by kernel_rfl
theorem fin_3_3 (p : Nat) (d : List UInt8) (m : Int) : (parT 2998 (resS (lexFrom 1000 (59 :: restT 3 3) p (headK d m)))).bind afterT = some (gpT 3 3 m, 0) := by kernel_rfl
theorem sp_3_3_1 (m : Int) (a : UInt8) : showP 2998 (gpT 3 3 m) [a] = some (109 :: 111 :: 100 :: 32 :: ([a] ++ 59 :: restS 3 3)) := by kernel_rfl
theorem sr_3_3_1 (m : Int) (a : UInt8) : showR 2999 (gpT 3 3 m) [a] = some (109 :: 111 :: 100 :: 32 :: ([a] ++ 59 :: restS 3 3)) := by kernel_rfl
theorem sp_3_3_2 (m : Int) (a b : UInt8) : showP 2998 (gpT 3 3 m) [a, b] = some (109 :: 111 :: 100 :: 32 :: ([a, b] ++ 59 :: restS 3 3)) := by kernel_rfl
theorem sr_3_3_2 (m : Int) (a b : UInt8) : showR 2999 (gpT 3 3 m) [a, b] = some (109 :: 111 :: 100 :: 32 :: ([a, b] ++ 59 :: restS 3 3)) := by kernel_rfl
theorem fin_3_4 (p : Nat) (d : List UInt8) (m : Int) : (parT 2998 (resS (lexFrom 1000 (59 :: restT 3 4) p (headK d m)))).bind afterT = some (gpT 3 4 m, 0) := by kernel_rfl
theorem sp_3_4_1 (m : Int) (a : UInt8) : showP 2998 (gpT 3 4 m) [a] = some (109 :: 111 :: 100 :: 32 :: ([a] ++ 59 :: restS 3 4)) := by kernel_rfl
theorem sr_3_4_1 (m : Int) (a : UInt8) : showR 2999 (gpT 3 4 m) [a] = some (109 :: 111 :: 100 :: 32 :: ([a] ++ 59 :: restS 3 4)) := by kernel_rfl
theorem sp_3_4_2 (m : Int) (a b : UInt8) : showP 2998 (gpT 3 4 m) [a, b] = some (109 :: 111 :: 100 :: 32 :: ([a, b] ++ 59 :: restS 3 4)) := by kernel_rfl
theorem sr_3_4_2 (m : Int) (a b : UInt8) : showR 2999 (gpT 3 4 m) [a, b] = some (109 :: 111 :: 100 :: 32 :: ([a, b] ++ 59 :: restS 3 4)) := by kernel_rfl
theorem gen_3 : ∀ n : Nat, n < 5 → ∀ m : Nat, m < 17 → 0 < n → n < m → m_gen_Make 3000 3 n m = some (gpT 3 n m, 0) ∧ m_gen_Make 2999 3 n m = some (gpT 3 n m, 0) := by decide +kernel
theorem right_3 : ∀ n : Nat, n < 5 → ∀ m : Nat, m < 17 → 0 < n → n < m → m_prog_Right 2998 (gpT 3 n m) = some true ∧ m_ref04_Right 2999 (gpT 3 n m) = some true := by decide +kernel
theorem same_3 : ∀ n : Nat, n < 5 → ∀ m : Nat, m < 17 → 0 < n → n < m → m_ref04_Same 3000 (gpT 3 n m) (gpT 3 n m) true = some true := by decide +kernel
theorem many_3 : ∀ n : Nat, n < 5 → 0 < n → (gpT 3 n 16).f_Threads.length = n := by decide +kernel
end Go.Proofs.YtgelgahilfojdaaGreat
end
section
namespace Go.Proofs.YtgelgahilfojdaaGreat
set_option linter.unusedVariables false
set_option maxRecDepth 100000
set_option maxHeartbeats 1000000
theorem fin_m {k n : Nat} (hk : 1 ≤ k ∧ k ≤ 3) (hn : 1 ≤ n ∧ n ≤ 4) (p : Nat) (d : List UInt8) (m : Int) : (parT 2998 (resS (lexFrom 1000 (59 :: restT k n) p (headK d m)))).bind afterT = some (gpT k n m, 0) := by
  rcases (show k = 1 ∨ k = 2 ∨ k = 3 by omega) with rfl | rfl | rfl <;> rcases (show n = 1 ∨ n = 2 ∨ n = 3 ∨ n = 4 by omega) with rfl | rfl | rfl | rfl
  · exact fin_1_1 p d m
  · exact fin_1_2 p d m
  · exact fin_1_3 p d m
  · exact fin_1_4 p d m
  · exact fin_2_1 p d m
  · exact fin_2_2 p d m
  · exact fin_2_3 p d m
  · exact fin_2_4 p d m
  · exact fin_3_1 p d m
  · exact fin_3_2 p d m
  · exact fin_3_3 p d m
  · exact fin_3_4 p d m
theorem sp_m1 {k n : Nat} (hk : 1 ≤ k ∧ k ≤ 3) (hn : 1 ≤ n ∧ n ≤ 4) (m : Int) (a : UInt8) : showP 2998 (gpT k n m) [a] = some (109 :: 111 :: 100 :: 32 :: ([a] ++ 59 :: restS k n)) := by
  rcases (show k = 1 ∨ k = 2 ∨ k = 3 by omega) with rfl | rfl | rfl <;> rcases (show n = 1 ∨ n = 2 ∨ n = 3 ∨ n = 4 by omega) with rfl | rfl | rfl | rfl
  · exact sp_1_1_1 m a
  · exact sp_1_2_1 m a
  · exact sp_1_3_1 m a
  · exact sp_1_4_1 m a
  · exact sp_2_1_1 m a
  · exact sp_2_2_1 m a
  · exact sp_2_3_1 m a
  · exact sp_2_4_1 m a
  · exact sp_3_1_1 m a
  · exact sp_3_2_1 m a
  · exact sp_3_3_1 m a
  · exact sp_3_4_1 m a
theorem sp_m2 {k n : Nat} (hk : 1 ≤ k ∧ k ≤ 3) (hn : 1 ≤ n ∧ n ≤ 4) (m : Int) (a b : UInt8) : showP 2998 (gpT k n m) [a, b] = some (109 :: 111 :: 100 :: 32 :: ([a, b] ++ 59 :: restS k n)) := by
  rcases (show k = 1 ∨ k = 2 ∨ k = 3 by omega) with rfl | rfl | rfl <;> rcases (show n = 1 ∨ n = 2 ∨ n = 3 ∨ n = 4 by omega) with rfl | rfl | rfl | rfl
  · exact sp_1_1_2 m a b
  · exact sp_1_2_2 m a b
  · exact sp_1_3_2 m a b
  · exact sp_1_4_2 m a b
  · exact sp_2_1_2 m a b
  · exact sp_2_2_2 m a b
  · exact sp_2_3_2 m a b
  · exact sp_2_4_2 m a b
  · exact sp_3_1_2 m a b
  · exact sp_3_2_2 m a b
  · exact sp_3_3_2 m a b
  · exact sp_3_4_2 m a b
theorem sr_m1 {k n : Nat} (hk : 1 ≤ k ∧ k ≤ 3) (hn : 1 ≤ n ∧ n ≤ 4) (m : Int) (a : UInt8) : showR 2999 (gpT k n m) [a] = some (109 :: 111 :: 100 :: 32 :: ([a] ++ 59 :: restS k n)) := by
  rcases (show k = 1 ∨ k = 2 ∨ k = 3 by omega) with rfl | rfl | rfl <;> rcases (show n = 1 ∨ n = 2 ∨ n = 3 ∨ n = 4 by omega) with rfl | rfl | rfl | rfl
  · exact sr_1_1_1 m a
  · exact sr_1_2_1 m a
  · exact sr_1_3_1 m a
  · exact sr_1_4_1 m a
  · exact sr_2_1_1 m a
  · exact sr_2_2_1 m a
  · exact sr_2_3_1 m a
  · exact sr_2_4_1 m a
  · exact sr_3_1_1 m a
  · exact sr_3_2_1 m a
  · exact sr_3_3_1 m a
  · exact sr_3_4_1 m a
theorem sr_m2 {k n : Nat} (hk : 1 ≤ k ∧ k ≤ 3) (hn : 1 ≤ n ∧ n ≤ 4) (m : Int) (a b : UInt8) : showR 2999 (gpT k n m) [a, b] = some (109 :: 111 :: 100 :: 32 :: ([a, b] ++ 59 :: restS k n)) := by
  rcases (show k = 1 ∨ k = 2 ∨ k = 3 by omega) with rfl | rfl | rfl <;> rcases (show n = 1 ∨ n = 2 ∨ n = 3 ∨ n = 4 by omega) with rfl | rfl | rfl | rfl
  · exact sr_1_1_2 m a b
  · exact sr_1_2_2 m a b
  · exact sr_1_3_2 m a b
  · exact sr_1_4_2 m a b
  · exact sr_2_1_2 m a b
  · exact sr_2_2_2 m a b
  · exact sr_2_3_2 m a b
  · exact sr_2_4_2 m a b
  · exact sr_3_1_2 m a b
  · exact sr_3_2_2 m a b
  · exact sr_3_3_2 m a b
  · exact sr_3_4_2 m a b
theorem gen_g {k n m : Nat} (hk : 1 ≤ k ∧ k ≤ 3) (hn : 1 ≤ n ∧ n ≤ 4) (hm : n < m ∧ m ≤ 16) : m_gen_Make 3000 k n m = some (gpT k n m, 0) ∧ m_gen_Make 2999 k n m = some (gpT k n m, 0) := by
  rcases (show k = 1 ∨ k = 2 ∨ k = 3 by omega) with rfl | rfl | rfl
  · exact gen_1 n (by omega) m (by omega) (by omega) hm.1
  · exact gen_2 n (by omega) m (by omega) (by omega) hm.1
  · exact gen_3 n (by omega) m (by omega) (by omega) hm.1
theorem right_g {k n m : Nat} (hk : 1 ≤ k ∧ k ≤ 3) (hn : 1 ≤ n ∧ n ≤ 4) (hm : n < m ∧ m ≤ 16) : m_prog_Right 2998 (gpT k n m) = some true ∧ m_ref04_Right 2999 (gpT k n m) = some true := by
  rcases (show k = 1 ∨ k = 2 ∨ k = 3 by omega) with rfl | rfl | rfl
  · exact right_1 n (by omega) m (by omega) (by omega) hm.1
  · exact right_2 n (by omega) m (by omega) (by omega) hm.1
  · exact right_3 n (by omega) m (by omega) (by omega) hm.1
theorem same_g {k n m : Nat} (hk : 1 ≤ k ∧ k ≤ 3) (hn : 1 ≤ n ∧ n ≤ 4) (hm : n < m ∧ m ≤ 16) : m_ref04_Same 3000 (gpT k n m) (gpT k n m) true = some true := by
  rcases (show k = 1 ∨ k = 2 ∨ k = 3 by omega) with rfl | rfl | rfl
  · exact same_1 n (by omega) m (by omega) (by omega) hm.1
  · exact same_2 n (by omega) m (by omega) (by omega) hm.1
  · exact same_3 n (by omega) m (by omega) (by omega) hm.1
theorem many_g {k n : Nat} (hk : 1 ≤ k ∧ k ≤ 3) (hn : 1 ≤ n ∧ n ≤ 4) : (gpT k n 16).f_Threads.length = n := by
  rcases (show k = 1 ∨ k = 2 ∨ k = 3 by omega) with rfl | rfl | rfl
  · exact many_1 n (by omega) (by omega)
  · exact many_2 n (by omega) (by omega)
  · exact many_3 n (by omega) (by omega)
theorem dgs : ∀ i, i < 17 → m_prog_decimal 2998 (i : Nat) = some (dgT i) ∧ m_ref01_Digits 2999 (i : Nat) = some (dgT i) := by decide +kernel
theorem dg_two : ∀ m, (∃ a, dgT m = [a]) ∨ ∃ a b, dgT m = [a, b] := by
  intro m; unfold dgT; cases Nat.ble m 9
  · exact .inr ⟨_, _, rfl⟩
  · exact .inl ⟨_, rfl⟩
theorem gp_at {k n : Nat} (hk : 1 ≤ k ∧ k ≤ 3) (hn : 1 ≤ n ∧ n ≤ 4) (m : Int) : (gpT k n m).f_Mod = m ∧ (gpT k n m).f_Threads.length = n := by
  have h := (gen_g (m := 16) hk hn (by omega)).2
  have h2 := many_g hk hn
  have e : ∀ m : Int, gpT k n m = ⟨m, (gpT k n 16).f_Locs, (gpT k n 16).f_Threads, (gpT k n 16).f_Claims⟩ := by
    intro m
    rw [gpT]
    have h' : m_gen_Make 2999 (k : Nat) (n : Nat) 16 = some (gpT k n 16, 0) := h
    rw [h']
  rw [e m]
  exact ⟨rfl, h2⟩
theorem scanG {r : List UInt8} (hr : r.length ≤ 900) {m : Nat} (hm : m < 17) : scanL (109 :: 111 :: 100 :: 32 :: (dgT m ++ 59 :: r)) = lexFrom 1000 (59 :: r) (4 + (dgT m).length) (headK (dgT m) m) := by
  have h2 := (dg_m m hm).2
  have hl : (109 :: 111 :: 100 :: 32 :: (dgT m ++ 59 :: r)).length = (dgT m).length + r.length + 5 := by simp only [List.length_cons, List.length_append]; omega
  unfold scanL
  rw [if_neg (by omega), hl, lex2 _ m _ hm]
  exact lexFrom_fuel _ _ _ _ _ (by simp only [List.length_cons]; omega) (by simp only [List.length_cons]; omega)
theorem good26 {k n m : Nat} (hk : 1 ≤ k ∧ k ≤ 3) (hn : 1 ≤ n ∧ n ≤ 4) (hm : n < m ∧ m ≤ 16) : m_ref26_Make 3000 k n m = some (gpT k n m, 0) := by
  have h1 := rest_len k (by omega) n (by omega)
  have h2 := (dg_m m (by omega)).2
  have hl : (txtT k n m).length = (dgT m).length + (restT k n).length + 5 := by
    rw [txt_rest]; simp only [List.length_cons, List.length_append]; omega
  rw [make26 hk.1 hk.2 hn.1 hn.2 hm.1 hm.2, parse_par 2998 _ (by omega) (by omega), txt_rest, scanG h1 (by omega)]
  exact fin_m hk hn _ _ _
theorem text_g {k n m : Nat} (hk : 1 ≤ k ∧ k ≤ 3) (hn : 1 ≤ n ∧ n ≤ 4) (hm : n < m ∧ m ≤ 16) : m_gen_Text 3000 k n m = some (109 :: 111 :: 100 :: 32 :: (dgT m ++ 59 :: restS k n)) := by
  have h1 := (right_g hk hn hm).1
  have h2 := (dgs m (by omega)).1
  have h3 := (gp_at hk hn (m : Int)).1
  rw [m_gen_Text, (gen_g hk hn hm).2, Option.bind_some, bne_self_eq_false, cond_false, show_P 2998 (gpT k n m) h1 (by rw [h3]; exact h2)]
  rcases dg_two m with ⟨a, h⟩ | ⟨a, b, h⟩ <;> rw [h]
  · rw [sp_m1 hk hn]; rfl
  · rw [sp_m2 hk hn]; rfl
theorem show_g {k n m : Nat} (hk : 1 ≤ k ∧ k ≤ 3) (hn : 1 ≤ n ∧ n ≤ 4) (hm : n < m ∧ m ≤ 16) : m_ref04_Show 3000 (gpT k n m) = some (109 :: 111 :: 100 :: 32 :: (dgT m ++ 59 :: restS k n)) := by
  have h1 := (right_g hk hn hm).2
  have h2 := (dgs m (by omega)).2
  have h3 := (gp_at hk hn (m : Int)).1
  rw [show_R 2999 (gpT k n m) h1 (by rw [h3]; exact h2)]
  rcases dg_two m with ⟨a, h⟩ | ⟨a, b, h⟩ <;> rw [h]
  · rw [sr_m1 hk hn]
  · rw [sr_m2 hk hn]
def noneP : S_api_Prog × Int := (⟨0, [], [], []⟩, 1)
theorem gen_bad (N : Nat) {k n m : Int} (h : ¬ (1 ≤ k ∧ k ≤ 3 ∧ 1 ≤ n ∧ n ≤ 4 ∧ n < m ∧ m ≤ 16)) : m_gen_Make (N + 2) k n m = some noneP := by
  obtain ⟨ks, hks⟩ : ∃ ks, m_gen_kinds (N + 1) = some ks := ⟨_, rfl⟩
  rw [m_gen_Make, hks, Option.bind_some]
  by_cases h1 : k < 1
  · rw [bif_decide h1]; rfl
  rw [bif_not h1]
  by_cases h2 : 4 ≤ k
  · rw [bif_decide h2]; rfl
  rw [bif_not h2]
  by_cases h3 : n < 1
  · rw [bif_decide h3]; rfl
  rw [bif_not h3]
  by_cases h4 : 4 < n
  · rw [bif_decide h4]; rfl
  rw [bif_not h4]
  by_cases h5 : m ≤ n
  · rw [bif_decide h5]; rfl
  rw [bif_not h5]
  by_cases h6 : 16 < m
  · rw [bif_decide h6]; rfl
  omega
theorem ref_bad (N : Nat) {k n m : Int} (h : ¬ (1 ≤ k ∧ k ≤ 3 ∧ 1 ≤ n ∧ n ≤ 4 ∧ n < m ∧ m ≤ 16)) : m_ref26_Make (N + 1) k n m = some noneP := by
  rw [m_ref26_Make]
  by_cases h1 : k < 1
  · rw [bif_decide h1]; rfl
  rw [bif_not h1]
  by_cases h2 : 3 < k
  · rw [bif_decide h2]; rfl
  rw [bif_not h2]
  by_cases h3 : n < 1
  · rw [bif_decide h3]; rfl
  rw [bif_not h3]
  by_cases h4 : 4 < n
  · rw [bif_decide h4]; rfl
  rw [bif_not h4]
  by_cases h5 : m ≤ n
  · rw [bif_decide h5]; rfl
  rw [bif_not h5]
  by_cases h6 : 16 < m
  · rw [bif_decide h6]; rfl
  omega
theorem both_m (k n m : Int) : ∃ a : S_api_Prog × Int, m_gen_Make 3000 k n m = some a ∧ m_gen_Make 2999 k n m = some a ∧ m_ref26_Make 3000 k n m = some a ∧ m_ref04_Same 3000 a.1 a.1 true = some true ∧ ((a.2 = 0 ∧ ∃ t, m_ref04_Show 3000 a.1 = some t ∧ m_gen_Text 3000 k n m = some t) ∨ a.2 = 1 ∧ m_gen_Text 3000 k n m = some []) := by
  by_cases h : 1 ≤ k ∧ k ≤ 3 ∧ 1 ≤ n ∧ n ≤ 4 ∧ n < m ∧ m ≤ 16
  · obtain ⟨k, rfl⟩ : ∃ j : Nat, k = j := ⟨k.toNat, by omega⟩
    obtain ⟨n, rfl⟩ : ∃ j : Nat, n = j := ⟨n.toNat, by omega⟩
    obtain ⟨m, rfl⟩ : ∃ j : Nat, m = j := ⟨m.toNat, by omega⟩
    have hk : 1 ≤ k ∧ k ≤ 3 := by omega
    have hn : 1 ≤ n ∧ n ≤ 4 := by omega
    have hm : n < m ∧ m ≤ 16 := by omega
    exact ⟨_, (gen_g hk hn hm).1, (gen_g hk hn hm).2, good26 hk hn hm, same_g hk hn hm, .inl ⟨rfl, _, show_g hk hn hm, text_g hk hn hm⟩⟩
  · refine ⟨noneP, gen_bad 2998 h, gen_bad 2997 h, ref_bad 2999 h, by decide +kernel, .inr ⟨rfl, ?_⟩⟩
    rw [m_gen_Text, gen_bad 2997 h, Option.bind_some]
    rfl
theorem known26 : m_law26_known 3000 = some true := by decide +kernel
theorem genMakes_m (k n m : Int) : m_law26_GenMakes 3001 k n m = some true := by
  obtain ⟨a, a1, a2, a3, a4, a5⟩ := both_m k n m
  obtain ⟨b, b1, b2, b3, b4, _⟩ := both_m 1 n m
  obtain ⟨c, c1, c2, c3, c4, _⟩ := both_m 2 n m
  obtain ⟨d, d1, d2, d3, d4, _⟩ := both_m 3 n m
  have l1 : m_gen_Lock 3000 n m = some b := by rw [m_gen_Lock, b2]; rfl
  have l2 : m_gen_Ticket 3000 n m = some c := by rw [m_gen_Ticket, c2]; rfl
  have l3 : m_gen_Barrier 3000 n m = some d := by rw [m_gen_Barrier, d2]; rfl
  rcases a5 with ⟨a6, t, a7, a8⟩ | ⟨a6, a7⟩
  · have e : (a.2 == 0) = true := by rw [a6]; rfl
    simp only [m_law26_GenMakes, a1, a3, a4, Option.bind_some, cond_true, bne_self_eq_false, cond_false, e, a7, a8, l1, l2, l3, b3, b4, c3, c4, d3, d4, beq_self_eq_true, known26]
  · have e : (a.2 == 0) = false := by rw [a6]; rfl
    simp only [m_law26_GenMakes, a1, a3, a4, Option.bind_some, cond_true, bne_self_eq_false, cond_false, e, a7, l1, l2, l3, b3, b4, c3, c4, d3, d4, beq_self_eq_true, known26]
end Go.Proofs.YtgelgahilfojdaaGreat
end
section
namespace Go.Proofs.YtgelgahilfojdaaGreat
set_option linter.unusedVariables false
set_option linter.unusedSimpArgs false
set_option maxRecDepth 100000
set_option maxHeartbeats 4000000
theorem ok_expr_kids {n:Nat} ⦃v0_op:Int⦄ ⦃r:Int⦄:m_expr_kids n v0_op=some r→CN n 146 [iA v0_op] []=some (iA r,[]):=by
 intro h;rcases n with _|n;cases h
 rw [m_expr_kids] at h
 refine callN_eq' Tryz.func146 (by rfl) rfl rfl (Nat.le_of_ble_eq_true rfl) ?_
 intro call hc;conv=>lhs;whnf
 revert h
 refine br ?_ ?_
 refine br ?_ ?_
 exact rz
 refine br ?_ ?_
 exact rz
 refine br ?_ ?_
 refine br ?_ ?_
 exact rz
 exact rz
 exact rz
 refine br ?_ ?_
 exact rz
 refine br ?_ ?_
 refine br ?_ ?_
 exact rz
 exact rz
 exact rz
theorem ok_expr_End {n:Nat} ⦃v0_l:(List S_api_Node)⦄ ⦃v1_i:Int⦄ ⦃r:Int⦄:m_expr_End n v0_l v1_i=some r→CN n 132 [AV.sl 5 (List.map c_api_Node v0_l),iA v1_i] []=some (iA r,[]):=by
 intro h;rcases n with _|n;cases h
 rw [m_expr_End] at h
 refine callN_eq' Tryz.func132 (by rfl) rfl rfl (Nat.le_of_ble_eq_true rfl) ?_
 intro call hc;conv=>lhs;whnf
 revert h
 refine br ?_ ?_
 exact rz
 intro h;refine bind_some2 h ?_;clear h;intro o11 ho11 h
 refine lq (σ:=(Int×Int)) (τ:=Unit) (ν:=Int) 0 (fun (s2,s3) a5=>stOf 31 [(0,AV.sl 5 (List.map c_api_Node v0_l)),(1,iA s2),(5,iA s3)]) (fun (s2,s3) a5=>[]) (fun _ a18=>stOf 31 []) (fun _ a18=>[]) (fun v=>(iA v,[])) (fun k s=>expr_End_L0 n v0_l k s.1 s.2) (fun s=>rfl) o11 n (v1_i,1) (fun _=>0) ho11 ?_ ?_
 intro k4 ss a5 K6 cont7 hK8 hcont9 h hr10
 obtain ⟨s2,s3⟩:=ss
 replace h:expr_End_L0 n v0_l (k4+1) s2 s3=some o11:=h
 rw [expr_End_L0] at h
 conv=>lhs;whnf
 revert h
 refine br ?_ ?_
 refine ix ?_;intro x13
 refine ca hc (fun _ h=>ok_expr_kids h) ?_;intro y14
 refine br ?_ ?_
 intro h;cases sj h
 refine (hK8 _ _).trans ?_
 refine Eq.trans ?_ (Eq.symm (show _=some _ from hr10))
 conv=>lhs;whnf
 exact rq
 refine br ?_ ?_
 intro h;cases sj h
 refine (hK8 _ _).trans ?_
 refine Eq.trans ?_ (Eq.symm (show _=some _ from hr10))
 conv=>lhs;whnf
 exact rq
 exact fun h=>cq (hcont9 (IntKind.i64.wrap (s2+1),IntKind.i64.wrap (s3+(IntKind.i64.wrap (y14 - 1)))) (fun _=>0) h)
 intro h;cases sj h
 exact kq (hr10 (fun _=>0))
 refine lrc ?_ ?_
 intro v e;subst e;cases sj h;rfl
 intro t a18 e;subst e
 dsimp only at h
 conv=>lhs;whnf
 revert h
 exact rz
theorem ok_expr_Names {n:Nat} ⦃v0_l:(List S_api_Node)⦄ ⦃r:(List S_api_Node)⦄:m_expr_Names n v0_l=some r→CN n 124 [AV.sl 5 (List.map c_api_Node v0_l)] []=some (AV.sl 5 (List.map c_api_Node r),[]):=by
 intro h;rcases n with _|n;cases h
 rw [m_expr_Names] at h
 refine callN_eq' Tryz.func124 (by rfl) rfl rfl (Nat.le_of_ble_eq_true rfl) ?_
 intro call hc;conv=>lhs;whnf
 revert h
 intro h;refine bind_some2 h ?_;clear h;intro o10 ho10 h
 refine lq (σ:=(Int×(List S_api_Node))) (τ:=(List S_api_Node)) (ν:=(List S_api_Node)) 0 (fun (s1,s2) a4=>stOf 24 [(3,AV.row 0 (List.length s2)),(6,AV.sl 5 (List.map c_api_Node v0_l)),(7,iA (((v0_l.length:Nat):Int))),(8,iA s1)]) (fun (s1,s2) a4=>[Ob.row 85 5 (List.map c_api_Node s2)]) (fun x23 a22=>stOf 24 [(3,AV.row 0 (List.length x23))]) (fun x23 a22=>[Ob.row 85 5 (List.map c_api_Node x23)]) (fun v=>(AV.sl 5 (List.map c_api_Node v),[])) (fun k s=>expr_Names_L0 n v0_l k s.1 s.2) (fun s=>rfl) o10 n (0,([]:List S_api_Node)) (fun _=>0) ho10 ?_ ?_
 intro k3 ss a4 K5 cont6 hK7 hcont8 h hr9
 obtain ⟨s1,s2⟩:=ss
 replace h:expr_Names_L0 n v0_l (k3+1) s1 s2=some o10:=h
 rw [expr_Names_L0] at h
 conv=>lhs;whnf
 revert h
 refine br ?_ ?_
 refine ix ?_;intro x12
 refine br ?_ ?_
 refine ar (ap c_api_Node (List.map c_api_Node s2) s2 ([[iA x12.f_Op,iA x12.f_N,sA x12.f_Name,sA x12.f_In,iA x12.f_At]]) ([x12]:List S_api_Node)) ?_
 exact fun h=>cq (hcont8 (IntKind.i64.wrap (s1+1),(s2++([x12]:List S_api_Node))) (fun _=>0) h)
 refine br ?_ ?_
 refine ar (ap c_api_Node (List.map c_api_Node s2) s2 ([[iA x12.f_Op,iA x12.f_N,sA x12.f_Name,sA x12.f_In,iA x12.f_At]]) ([x12]:List S_api_Node)) ?_
 exact fun h=>cq (hcont8 (IntKind.i64.wrap (s1+1),(s2++([x12]:List S_api_Node))) (fun _=>0) h)
 refine br ?_ ?_
 refine ar (ap c_api_Node (List.map c_api_Node s2) s2 ([[iA x12.f_Op,iA x12.f_N,sA x12.f_Name,sA x12.f_In,iA x12.f_At]]) ([x12]:List S_api_Node)) ?_
 exact fun h=>cq (hcont8 (IntKind.i64.wrap (s1+1),(s2++([x12]:List S_api_Node))) (fun _=>0) h)
 exact fun h=>cq (hcont8 (IntKind.i64.wrap (s1+1),s2) (fun _=>0) h)
 intro h;cases sj h
 exact kq (hr9 (fun _=>0))
 refine lrc ?_ ?_
 intro v e;subst e;cases sj h;rfl
 intro x23 a22 e;subst e
 dsimp only at h
 conv=>lhs;whnf
 revert h
 intro h;obtain rfl:=sj h
 try simp only [ls]
 exact fq (y:=some (AV.sl 5 (List.take (List.length x23) (List.map c_api_Node x23)),[]))
theorem ok_expr_depth {n:Nat} ⦃v0_l:(List S_api_Node)⦄ ⦃r:Int⦄:m_expr_depth n v0_l=some r→CN n 134 [AV.sl 5 (List.map c_api_Node v0_l)] []=some (iA r,[]):=by
 intro h;rcases n with _|n;cases h
 rw [m_expr_depth] at h
 refine callN_eq' Tryz.func134 (by rfl) rfl rfl (Nat.le_of_ble_eq_true rfl) ?_
 intro call hc;conv=>lhs;whnf
 revert h
 intro h;refine bind_some2 h ?_;clear h;intro o11 ho11 h
 refine lq (σ:=(Int×Int×(List Int))) (τ:=(Int×(List Int))) (ν:=Int) 0 (fun (s1,s2,s3) a5=>stOf 50 [(3,AV.stk 0 (a5 0) (List.length s3)),(4,iA s1),(9,AV.sl 5 (List.map c_api_Node v0_l)),(10,iA (((v0_l.length:Nat):Int))),(11,iA s2)]) (fun (s1,s2,s3) a5=>[Ob.stk (a5 0) 3 1 (List.map encI s3)]) (fun (x41,x42) a40=>stOf 50 [(4,iA x41)]) (fun (x41,x42) a40=>[Ob.stk (a40 0) 3 1 (List.map encI x42)]) (fun v=>(iA v,[])) (fun k s=>expr_depth_L0 n v0_l k s.1 s.2.1 s.2.2) (fun s=>rfl) o11 n (0,0,([]:List Int)) (fun j=>(bif Nat.beq j 0 then 0 else 0)) ho11 ?_ ?_
 intro k4 ss a5 K6 cont7 hK8 hcont9 h hr10
 obtain ⟨s1,s2,s3⟩:=ss
 replace h:expr_depth_L0 n v0_l (k4+1) s1 s2 s3=some o11:=h
 rw [expr_depth_L0] at h
 conv=>lhs;whnf
 revert h
 refine br ?_ ?_
 refine ix ?_;intro x13
 refine ca hc (fun _ h=>ok_expr_kids h) ?_;intro y14
 refine br ?_ ?_
 intro h
 refine chk_some2 h ?_;clear h;intro hc19 h
 try simp only [dec_self]
 conv=>lhs;whnf
 first|refine bif_pos (app_row hc19 (by first|rfl|simp only [List.length_map]) (by first|rfl|simp only [List.length_map]) (by first|rfl|simp only [List.length_map,take_map_len]) (by kernel_rfl)) ?_|refine bif_pos (app_row2 hc19 (by first|rfl|simp only [List.length_map]) (by first|rfl|simp only [List.length_map,take_map_len]) (by kernel_rfl)) ?_
 try simp only [lt]
 have hp17:(List.map encI s3:List (List AV))++[[iA y14]]=List.map encI (s3++([y14]:List Int)):=by first|rfl|(rw [List.map_append];rfl)|(rw [List.map_append];done)|(simp only [List.map_append,List.map_cons,List.map_nil,List.nil_append,encI]<;>rfl)
 have hl18:List.length (List.map encI s3:List (List AV))+List.length ([[iA y14]]:List (List AV))=List.length (s3++([y14]:List Int)):=by simp only [List.length_map,List.length_append]<;>rfl
 have hl18_b:List.length s3+List.length ([[iA y14]]:List (List AV))=List.length (s3++([y14]:List Int)):=by simp only [List.length_map,List.length_append]<;>rfl
 have hl18_c:List.length s3+List.length ([y14]:List Int)=List.length (s3++([y14]:List Int)):=by simp only [List.length_map,List.length_append]<;>rfl
 first|simp only [hp17,hl18]|(simp only [List.length_map,take_map_len];simp only [hp17,hl18_b,hl18_c])
 try simp only [ls]
 conv=>lhs;whnf
 revert h
 exact fun h=>cq (hcont9 ((if s1<((s3.length:Nat):Int) then ((s3.length:Nat):Int) else s1),IntKind.i64.wrap (s2+1),(s3++([y14]:List Int))) (fun j=>(bif Nat.beq j 0 then ((a5 0)+1) else 0)) h)
 intro h;refine bind_some2 h ?_;clear h;intro o28 ho28 h
 refine lq (σ:=(List Int)) (τ:=(List Int)) (ν:=Int) 2 (fun s20 a22=>stOf 50 [(3,AV.stk 0 (a22 0) (List.length s20)),(4,iA ((if s1<((s3.length:Nat):Int) then ((s3.length:Nat):Int) else s1))),(9,AV.sl 5 (List.map c_api_Node v0_l)),(10,iA (((v0_l.length:Nat):Int))),(11,iA s2)]) (fun s20 a22=>[Ob.stk (a22 0) 3 1 (List.map encI s20),Ob.var 85 [iA x13.f_Op,iA x13.f_N,sA x13.f_Name,sA x13.f_In,iA x13.f_At]]) (fun x38 a37=>stOf 50 [(3,AV.stk 0 (a37 0) (List.length x38)),(4,iA ((if s1<((s3.length:Nat):Int) then ((s3.length:Nat):Int) else s1))),(9,AV.sl 5 (List.map c_api_Node v0_l)),(10,iA (((v0_l.length:Nat):Int))),(11,iA s2)]) (fun x38 a37=>[Ob.stk (a37 0) 3 1 (List.map encI x38),Ob.var 85 [iA x13.f_Op,iA x13.f_N,sA x13.f_Name,sA x13.f_In,iA x13.f_At]]) (fun v=>(iA v,[])) (fun k s=>expr_depth_L1 n k s) (fun s=>rfl) o28 n s3 (fun j=>(bif Nat.beq j 0 then (a5 0) else 0)) ho28 ?_ ?_
 intro k21 s20 a22 K23 cont24 hK25 hcont26 h hr27
 replace h:expr_depth_L1 n (k21+1) s20=some o28:=h
 rw [expr_depth_L1] at h
 conv=>lhs;whnf
 revert h
 refine br ?_ ?_
 intro h
 refine bind_some2 h ?_;clear h;intro x30 hx30 h
 try simp only [dec_self]
 conv=>lhs;whnf
 try simp only [ls]
 refine bif_pos (by first|exact idx_in hx30|exact idx_in' hx30|exact own_in hx30|exact own_in' hx30|(have q:=idx_in hx30;simp only [List.length_set] at q;exact q)|(have q:=own_in' hx30;simp only [List.length_set,Nat.zero_add] at q ⊢;exact q)) ?_
 conv=>lhs;whnf
 try simp only [idx_nth (f:=encI) hx30,dec_self,ls]
 conv=>lhs;whnf
 revert h
 intro h
 refine bind_some2 h ?_;clear h;intro x31 hx31 h
 try simp only [dec_self]
 conv=>lhs;whnf
 try simp only [ls]
 refine bif_pos (by first|exact idx_in hx31|exact idx_in' hx31|exact own_in hx31|exact own_in' hx31|(have q:=idx_in hx31;simp only [List.length_set] at q;exact q)|(have q:=own_in' hx31;simp only [List.length_set,Nat.zero_add] at q ⊢;exact q)) ?_
 conv=>lhs;whnf
 try simp only [idx_nth (f:=encI) hx31,dec_self,ls]
 conv=>lhs;whnf
 revert h
 intro h
 have hs32:setNth (List.map encI s20) (IntKind.i64.wrap (((s20.length:Nat):Int) - 1)).toNat [iA (IntKind.i64.wrap (x30 - 1))]=List.map encI (List.set s20 (IntKind.i64.wrap (((s20.length:Nat):Int) - 1)).toNat (IntKind.i64.wrap (x30 - 1))):=by rw [setNth_eq,List.map_set];rfl
 have hs32_u:setNth (List.map encI s20) (IntKind.i64.wrap (((s20.length:Nat):Int) - 1)).toNat (updL (encI x31) 0 [iA (IntKind.i64.wrap (x30 - 1))])=List.map encI (List.set s20 (IntKind.i64.wrap (((s20.length:Nat):Int) - 1)).toNat (IntKind.i64.wrap (x30 - 1))):=by rw [setNth_eq,List.map_set];rfl
 try simp only [idx_nth (f:=encI) hx31,dec_self]
 conv=>lhs;whnf
 try simp only [hs32,hs32_u,dec_self]
 conv=>lhs;whnf
 revert h
 intro h
 refine bind_some2 h ?_;clear h;intro x33 hx33 h
 try simp only [dec_self]
 conv=>lhs;whnf
 try simp only [ls]
 refine bif_pos (by first|exact idx_in hx33|exact idx_in' hx33|exact own_in hx33|exact own_in' hx33|(have q:=idx_in hx33;simp only [List.length_set] at q;exact q)|(have q:=own_in' hx33;simp only [List.length_set,Nat.zero_add] at q ⊢;exact q)) ?_
 conv=>lhs;whnf
 try simp only [idx_nth (f:=encI) hx33,dec_self,ls]
 conv=>lhs;whnf
 revert h
 refine br ?_ ?_
 intro h;cases sj h
 exact kq (hr27 (fun j=>(bif Nat.beq j 0 then (a22 0) else 0)))
 intro h
 refine chk_some2 h ?_;clear h;intro hc36 h
 try simp only [dec_self]
 conv=>lhs;whnf
 try simp only [ls]
 first|refine bif_pos hc36 ?_|(refine bif_pos (by have q:=hc36;simp only [List.length_set] at q;exact q) ?_)
 have hs35:List.take ((IntKind.i64.wrap (((s20.length:Nat):Int) - 1)).toNat) (List.map encI (List.set s20 (IntKind.i64.wrap (((s20.length:Nat):Int) - 1)).toNat (IntKind.i64.wrap (x30 - 1))))=List.map encI (List.take ((IntKind.i64.wrap (((s20.length:Nat):Int) - 1)).toNat) (List.set s20 (IntKind.i64.wrap (((s20.length:Nat):Int) - 1)).toNat (IntKind.i64.wrap (x30 - 1)))):=by rw [List.map_take]
 have hs35_l:List.length (List.take ((IntKind.i64.wrap (((s20.length:Nat):Int) - 1)).toNat) (List.set s20 (IntKind.i64.wrap (((s20.length:Nat):Int) - 1)).toNat (IntKind.i64.wrap (x30 - 1))))=(IntKind.i64.wrap (((s20.length:Nat):Int) - 1)).toNat:=by simp only [List.length_take];exact Nat.min_eq_left (cut_le hc36)
 conv=>lhs;whnf
 try simp only [dec_self,hs35]
 conv=>lhs;whnf
 try simp only [hs35]
 have hs35_s:∀ q,AV.stk 0 q ((IntKind.i64.wrap (((s20.length:Nat):Int) - 1)).toNat)=AV.stk 0 q (List.length (List.take ((IntKind.i64.wrap (((s20.length:Nat):Int) - 1)).toNat) (List.set s20 (IntKind.i64.wrap (((s20.length:Nat):Int) - 1)).toNat (IntKind.i64.wrap (x30 - 1))))):=fun q=>by rw [hs35_l]
 try simp only [hs35_s]
 conv=>lhs;whnf
 revert h
 exact fun h=>cq (hcont26 (List.take ((IntKind.i64.wrap (((s20.length:Nat):Int) - 1)).toNat) (List.set s20 (IntKind.i64.wrap (((s20.length:Nat):Int) - 1)).toNat (IntKind.i64.wrap (x30 - 1)))) (fun j=>(bif Nat.beq j 0 then ((a22 0)+1) else 0)) h)
 intro h;cases sj h
 exact kq (hr27 (fun j=>(bif Nat.beq j 0 then (a22 0) else 0)))
 refine lrc ?_ ?_
 intro v e;subst e;cases sj h;exact hr10
 intro x38 a37 e;subst e
 dsimp only at h
 conv=>lhs;whnf
 revert h
 exact fun h=>cq (hcont9 ((if s1<((s3.length:Nat):Int) then ((s3.length:Nat):Int) else s1),IntKind.i64.wrap (s2+1),x38) (fun j=>(bif Nat.beq j 0 then (a37 0) else 0)) h)
 intro h;cases sj h
 exact kq (hr10 (fun j=>(bif Nat.beq j 0 then (a5 0) else 0)))
 refine lrc ?_ ?_
 intro v e;subst e;cases sj h;rfl
 intro t a40 e;subst e
 obtain ⟨x41,x42⟩:=t
 dsimp only at h
 conv=>lhs;whnf
 revert h
 exact rz
theorem ok_expr_fits {n:Nat} ⦃v0_x:S_api_Node⦄ ⦃r:Bool⦄:m_expr_fits n v0_x=some r→CN n 133 [AV.agg [iA v0_x.f_Op,iA v0_x.f_N,sA v0_x.f_Name,sA v0_x.f_In,iA v0_x.f_At]] []=some (bA r,[]):=by
 intro h;rcases n with _|n;cases h
 rw [m_expr_fits] at h
 refine callN_eq' Tryz.func133 (by rfl) rfl rfl (Nat.le_of_ble_eq_true rfl) ?_
 intro call hc;conv=>lhs;whnf
 revert h
 refine br ?_ ?_
 exact rz
 refine br ?_ ?_
 intro h
 have hf5:flatT Tryz.prog 85=some (fieldsOf Tryz.prog 85):=by kernel_rfl
 simp only [hf5,List.length_map,take_map_len]
 conv=>lhs;whnf
 revert h
 refine br ?_ ?_
 refine br ?_ ?_
 exact rz
 exact rz
 exact rz
 refine br ?_ ?_
 refine ca hc (fun _ h=>ok_scan_Name h) ?_;intro y7
 refine br ?_ ?_
 intro h
 have hf13:flatT Tryz.prog 85=some (fieldsOf Tryz.prog 85):=by kernel_rfl
 simp only [hf13,List.length_map,take_map_len]
 conv=>lhs;whnf
 revert h
 refine br ?_ ?_
 refine ca hc (fun _ h=>ok_scan_Name h) ?_;intro y11
 exact rz
 exact rz
 exact rz
 refine br ?_ ?_
 intro h
 have hf18:flatT Tryz.prog 85=some (fieldsOf Tryz.prog 85):=by kernel_rfl
 simp only [hf18,List.length_map,take_map_len]
 conv=>lhs;whnf
 revert h
 refine br ?_ ?_
 refine ca hc (fun _ h=>ok_scan_Name h) ?_;intro y16
 exact rz
 exact rz
 refine br ?_ ?_
 intro h
 have hf23:flatT Tryz.prog 85=some (fieldsOf Tryz.prog 85):=by kernel_rfl
 simp only [hf23,List.length_map,take_map_len]
 conv=>lhs;whnf
 revert h
 refine br ?_ ?_
 refine ca hc (fun _ h=>ok_scan_Name h) ?_;intro y21
 exact rz
 exact rz
 intro h
 have hf24:flatT Tryz.prog 85=some (fieldsOf Tryz.prog 85):=by kernel_rfl
 simp only [hf24,List.length_map,take_map_len]
 conv=>lhs;whnf
 revert h
 exact rz
theorem ok_expr_Right {n:Nat} ⦃v0_l:(List S_api_Node)⦄ ⦃r:Bool⦄:m_expr_Right n v0_l=some r→CN n 98 [AV.sl 5 (List.map c_api_Node v0_l)] []=some (bA r,[]):=by
 intro h;rcases n with _|n;cases h
 rw [m_expr_Right] at h
 refine callN_eq' Tryz.func98 (by rfl) rfl rfl (Nat.le_of_ble_eq_true rfl) ?_
 intro call hc;conv=>lhs;whnf
 revert h
 refine br ?_ ?_
 exact rz
 refine br ?_ ?_
 exact rz
 refine ca hc (fun _ h=>ok_expr_End h) ?_;intro y3
 refine br ?_ ?_
 exact rz
 intro h;refine bind_some2 h ?_;clear h;intro o14 ho14 h
 refine lq (σ:=Int) (τ:=Unit) (ν:=Bool) 0 (fun s6 a8=>stOf 33 [(0,AV.sl 5 (List.map c_api_Node v0_l)),(20,AV.sl 5 (List.map c_api_Node v0_l)),(21,iA (((v0_l.length:Nat):Int))),(22,iA s6)]) (fun s6 a8=>[]) (fun _ a20=>stOf 33 [(0,AV.sl 5 (List.map c_api_Node v0_l))]) (fun _ a20=>[]) (fun v=>(bA v,[])) (fun k s=>expr_Right_L0 n v0_l k s) (fun s=>rfl) o14 n 0 (fun _=>0) ho14 ?_ ?_
 intro k7 s6 a8 K9 cont10 hK11 hcont12 h hr13
 replace h:expr_Right_L0 n v0_l (k7+1) s6=some o14:=h
 rw [expr_Right_L0] at h
 conv=>lhs;whnf
 revert h
 refine br ?_ ?_
 refine ix ?_;intro x16
 refine ca hc (fun _ h=>ok_expr_fits h) ?_;intro y17
 refine br ?_ ?_
 exact fun h=>cq (hcont12 (IntKind.i64.wrap (s6+1)) (fun _=>0) h)
 intro h;cases sj h
 refine (hK11 _ _).trans ?_
 refine Eq.trans ?_ (Eq.symm (show _=some _ from hr13))
 conv=>lhs;whnf
 exact rq
 intro h;cases sj h
 exact kq (hr13 (fun _=>0))
 refine lrc ?_ ?_
 intro v e;subst e;cases sj h;rfl
 intro t a20 e;subst e
 dsimp only at h
 conv=>lhs;whnf
 revert h
 refine ca hc (fun _ h=>ok_expr_depth h) ?_;intro y21
 exact rz
def OK_expr_decimal (n:Nat):Prop:=∀ ⦃v0_n:Int⦄ ⦃r:(List UInt8)⦄,m_expr_decimal n v0_n=some r→CN n 135 [iA v0_n] []=some (sA r,[])
def IH_expr_decimal (n : Nat) : Prop := OK_expr_decimal n
theorem st_expr_decimal (n:Nat) (ih:IH_expr_decimal n):OK_expr_decimal (n+1):=by
 intro v0_n r h
 rw [m_expr_decimal] at h
 refine callN_eq' Tryz.func135 (by rfl) rfl rfl (Nat.le_of_ble_eq_true rfl) ?_
 intro call hc;conv=>lhs;whnf
 revert h
 refine br ?_ ?_
 exact rz
 refine ca hc (fun _ h=>ih h) ?_;intro y2
 intro h
 refine chk_some2 h ?_;clear h;intro hc4 h
 refine bif_pos hc4 ?_
 try simp only [ls]
 conv=>lhs;whnf
 revert h
 exact rz
theorem all_expr_decimal : ∀ n, IH_expr_decimal n
  | 0 => by unfold IH_expr_decimal OK_expr_decimal; intros; rename_i h; exact absurd h (by intro h; cases h)
  | n + 1 => have ih := all_expr_decimal n
    st_expr_decimal n ih
theorem ok_expr_decimal {n : Nat} : OK_expr_decimal n := (all_expr_decimal n)
theorem ok_expr_sign {n:Nat} ⦃v0_op:Int⦄ ⦃r:(List UInt8)⦄:m_expr_sign n v0_op=some r→CN n 136 [iA v0_op] []=some (sA r,[]):=by
 intro h;rcases n with _|n;cases h
 rw [m_expr_sign] at h
 refine callN_eq' Tryz.func136 (by rfl) rfl rfl (Nat.le_of_ble_eq_true rfl) ?_
 intro call hc;conv=>lhs;whnf
 revert h
 refine br ?_ ?_
 exact rz
 refine br ?_ ?_
 exact rz
 refine br ?_ ?_
 exact rz
 refine br ?_ ?_
 exact rz
 refine br ?_ ?_
 exact rz
 refine br ?_ ?_
 exact rz
 refine br ?_ ?_
 exact rz
 refine br ?_ ?_
 exact rz
 refine br ?_ ?_
 exact rz
 refine br ?_ ?_
 exact rz
 refine br ?_ ?_
 exact rz
 refine br ?_ ?_
 exact rz
 refine br ?_ ?_
 exact rz
 refine br ?_ ?_
 exact rz
 refine bt ?_
 exact rz
def OK_expr_shown (n:Nat):Prop:=∀ ⦃v0_l:(List S_api_Node)⦄ ⦃v1_i:Int⦄ ⦃v2_operand:Bool⦄ ⦃r:((List UInt8)×Int)⦄,m_expr_shown n v0_l v1_i v2_operand=some r→CN n 99 [AV.sl 5 (List.map c_api_Node v0_l),iA v1_i,bA v2_operand] []=some (AV.tup [sA r.1,iA r.2],[])
def IH_expr_shown (n : Nat) : Prop := OK_expr_shown n
theorem st_expr_shown (n:Nat) (ih:IH_expr_shown n):OK_expr_shown (n+1):=by
 intro v0_l v1_i v2_operand r h
 rw [m_expr_shown] at h
 refine callN_eq' Tryz.func99 (by rfl) rfl rfl (Nat.le_of_ble_eq_true rfl) ?_
 intro call hc;conv=>lhs;whnf
 revert h
 refine ix ?_;intro x1
 refine br ?_ ?_
 refine ca hc (fun _ h=>ok_expr_decimal h) ?_;intro y3
 exact rz
 refine br ?_ ?_
 exact rz
 refine br ?_ ?_
 exact rz
 refine br ?_ ?_
 intro h
 refine chk_some2 h ?_;clear h;intro hc8 h
 refine bif_pos hc8 ?_
 try simp only [ls]
 conv=>lhs;whnf
 revert h
 intro h
 refine chk_some2 h ?_;clear h;intro hc9 h
 refine bif_pos hc9 ?_
 try simp only [ls]
 conv=>lhs;whnf
 revert h
 exact rz
 refine br ?_ ?_
 refine ca hc (fun _ h=>ih h) ?_;intro y11
 refine ca hc (fun _ h=>ok_expr_sign h) ?_;intro y13
 intro h
 refine chk_some2 h ?_;clear h;intro hc15 h
 refine bif_pos hc15 ?_
 try simp only [ls]
 conv=>lhs;whnf
 revert h
 exact rz
 refine ca hc (fun _ h=>ih h) ?_;intro y16
 refine ca hc (fun _ h=>ih h) ?_;intro y18
 intro h
 refine chk_some2 h ?_;clear h;intro hc20 h
 refine bif_pos hc20 ?_
 try simp only [ls]
 conv=>lhs;whnf
 revert h
 refine ca hc (fun _ h=>ok_expr_sign h) ?_;intro y21
 intro h
 refine chk_some2 h ?_;clear h;intro hc23 h
 refine bif_pos hc23 ?_
 try simp only [ls]
 conv=>lhs;whnf
 revert h
 intro h
 refine chk_some2 h ?_;clear h;intro hc24 h
 refine bif_pos hc24 ?_
 try simp only [ls]
 conv=>lhs;whnf
 revert h
 intro h
 refine chk_some2 h ?_;clear h;intro hc25 h
 refine bif_pos hc25 ?_
 try simp only [ls]
 conv=>lhs;whnf
 revert h
 refine br ?_ ?_
 intro h
 refine chk_some2 h ?_;clear h;intro hc27 h
 refine bif_pos hc27 ?_
 try simp only [ls]
 conv=>lhs;whnf
 revert h
 intro h
 refine chk_some2 h ?_;clear h;intro hc28 h
 refine bif_pos hc28 ?_
 try simp only [ls]
 conv=>lhs;whnf
 revert h
 exact rz
 exact rz
theorem all_expr_shown : ∀ n, IH_expr_shown n
  | 0 => by unfold IH_expr_shown OK_expr_shown; intros; rename_i h; exact absurd h (by intro h; cases h)
  | n + 1 => have ih := all_expr_shown n
    st_expr_shown n ih
theorem ok_expr_shown {n : Nat} : OK_expr_shown n := (all_expr_shown n)
theorem ok_expr_Show {n:Nat} ⦃v0_l:(List S_api_Node)⦄ ⦃r:(List UInt8)⦄:m_expr_Show n v0_l=some r→CN n 69 [AV.sl 5 (List.map c_api_Node v0_l)] []=some (sA r,[]):=by
 intro h;rcases n with _|n;cases h
 rw [m_expr_Show] at h
 refine callN_eq' Tryz.func69 (by rfl) rfl rfl (Nat.le_of_ble_eq_true rfl) ?_
 intro call hc;conv=>lhs;whnf
 revert h
 refine ca hc (fun _ h=>ok_expr_Right h) ?_;intro y1
 refine br ?_ ?_
 refine ca hc (fun _ h=>ok_expr_shown h) ?_;intro y4
 exact rz
 exact rz
end Go.Proofs.YtgelgahilfojdaaGreat
end
section
namespace Go.Proofs.YtgelgahilfojdaaGreat
set_option linter.unusedVariables false
set_option linter.unusedSimpArgs false
set_option maxRecDepth 100000
set_option maxHeartbeats 4000000
theorem ok_stmt_nests {n:Nat} ⦃v0_kind:Int⦄ ⦃r:Bool⦄:m_stmt_nests n v0_kind=some r→CN n 131 [iA v0_kind] []=some (bA r,[]):=by
 intro h;rcases n with _|n;cases h
 rw [m_stmt_nests] at h
 refine callN_eq' Tryz.func131 (by rfl) rfl rfl (Nat.le_of_ble_eq_true rfl) ?_
 intro call hc;conv=>lhs;whnf
 revert h
 refine br ?_ ?_
 exact rz
 refine br ?_ ?_
 exact rz
 refine br ?_ ?_
 exact rz
 exact rz
def OK_stmt_depth (n:Nat):Prop:=∀ ⦃v0_l:(List S_api_Stmt)⦄ ⦃v1_from:Int⦄ ⦃v2_to:Int⦄ ⦃r:Int⦄,m_stmt_depth n v0_l v1_from v2_to=some r→CN n 140 [AV.sl 9 (List.map c_api_Stmt v0_l),iA v1_from,iA v2_to] []=some (iA r,[])
def OK_stmt_depth_1 (n:Nat):Prop:=∀ ⦃v0_i:Int⦄ ⦃v1_mid:Int⦄ ⦃v2_end:Int⦄ ⦃o0:(List S_api_Stmt)⦄ ⦃o1:Int⦄ ⦃r:(Bool×Int)⦄,m_stmt_depth_1 n v0_i v1_mid v2_end o0 o1=some r→CN n 147 [iA v0_i,iA v1_mid,iA v2_end,AV.ptr 0 0,AV.ptr 1 0] [Ob.var 50 [AV.sl 9 (List.map c_api_Stmt o0)],Ob.var 3 [iA o1]]=some (bA r.1,[Ob.var 50 [AV.sl 9 (List.map c_api_Stmt o0)],Ob.var 3 [iA r.2]])
def OK_stmt_walk_stmt_depth_1 (n:Nat):Prop:=∀ ⦃v0_l:(List S_api_Stmt)⦄ ⦃v1_from:Int⦄ ⦃v2_to:Int⦄ ⦃o0:(List S_api_Stmt)⦄ ⦃o1:Int⦄ ⦃r:(Bool×Int)⦄,m_stmt_walk_stmt_depth_1 n v0_l v1_from v2_to o0 o1=some r→CN n 127 [AV.sl 9 (List.map c_api_Stmt v0_l),iA v1_from,iA v2_to,AV.func 147 [] [AV.ptr 0 0,AV.ptr 1 0]] [Ob.var 50 [AV.sl 9 (List.map c_api_Stmt o0)],Ob.var 3 [iA o1]]=some (bA r.1,[Ob.var 50 [AV.sl 9 (List.map c_api_Stmt o0)],Ob.var 3 [iA r.2]])
def IH_stmt_depth (n : Nat) : Prop := OK_stmt_depth n ∧ OK_stmt_depth_1 n ∧ OK_stmt_walk_stmt_depth_1 n
theorem st_stmt_depth (n:Nat) (ih:IH_stmt_depth n):OK_stmt_depth (n+1):=by
 intro v0_l v1_from v2_to r h
 rw [m_stmt_depth] at h
 refine callN_eq' Tryz.func140 (by rfl) rfl rfl (Nat.le_of_ble_eq_true rfl) ?_
 intro call hc;conv=>lhs;whnf
 revert h
 refine ca hc (fun _ h=>ih.2.2 h) ?_;intro y1
 refine br ?_ ?_
 exact rz
 exact rz
theorem st_stmt_depth_1 (n:Nat) (ih:IH_stmt_depth n):OK_stmt_depth_1 (n+1):=by
 intro v0_i v1_mid v2_end o0 o1 r h
 rw [m_stmt_depth_1] at h
 refine callN_eq' Tryz.func147 (by rfl) rfl rfl (Nat.le_of_ble_eq_true rfl) ?_
 intro call hc;conv=>lhs;whnf
 revert h
 refine ca hc (fun _ h=>ih.1 h) ?_;intro y1
 refine ca hc (fun _ h=>ih.1 h) ?_;intro y3
 refine ix ?_;intro x5
 refine ca hc (fun _ h=>ok_stmt_nests h) ?_;intro y6
 refine br ?_ ?_
 refine br ?_ ?_
 exact rz
 exact rz
 refine br ?_ ?_
 exact rz
 exact rz
theorem st_stmt_walk_stmt_depth_1 (n:Nat) (ih:IH_stmt_depth n):OK_stmt_walk_stmt_depth_1 (n+1):=by
 intro v0_l v1_from v2_to o0 o1 r h
 rw [m_stmt_walk_stmt_depth_1] at h
 refine callN_eq' Tryz.func127 (by rfl) rfl rfl (Nat.le_of_ble_eq_true rfl) ?_
 intro call hc;conv=>lhs;whnf
 revert h
 intro h;refine bind_some2 h ?_;clear h;intro o10 ho10 h
 refine lq (σ:=(Int×Int)) (τ:=Int) (ν:=(Bool×Int)) 0 (fun (s1,s2) a4=>stOf 63 [(0,AV.sl 9 (List.map c_api_Stmt v0_l)),(1,iA s1),(2,iA v2_to),(3,AV.func 147 [] [AV.ptr 0 0,AV.ptr 1 0])]) (fun (s1,s2) a4=>[Ob.var 50 [AV.sl 9 (List.map c_api_Stmt o0)],Ob.var 3 [iA s2]]) (fun x21 a20=>stOf 63 []) (fun x21 a20=>[Ob.var 50 [AV.sl 9 (List.map c_api_Stmt o0)],Ob.var 3 [iA x21]]) (fun v=>(bA v.1,[Ob.var 50 [AV.sl 9 (List.map c_api_Stmt o0)],Ob.var 3 [iA v.2]])) (fun k s=>stmt_walk_stmt_depth_1_L0 n (m_stmt_depth_1 n) v0_l v2_to o0 k s.1 s.2) (fun s=>rfl) o10 n (v1_from,o1) (fun _=>0) ho10 ?_ ?_
 intro k3 ss a4 K5 cont6 hK7 hcont8 h hr9
 obtain ⟨s1,s2⟩:=ss
 replace h:stmt_walk_stmt_depth_1_L0 n (m_stmt_depth_1 n) v0_l v2_to o0 (k3+1) s1 s2=some o10:=h
 rw [stmt_walk_stmt_depth_1_L0] at h
 conv=>lhs;whnf
 revert h
 refine br ?_ ?_
 refine ix ?_;intro x12
 refine br ?_ ?_
 intro h;cases sj h
 refine (hK7 _ _).trans ?_
 refine Eq.trans ?_ (Eq.symm (show _=some _ from hr9))
 conv=>lhs;whnf
 exact rq
 refine br ?_ ?_
 intro h;cases sj h
 refine (hK7 _ _).trans ?_
 refine Eq.trans ?_ (Eq.symm (show _=some _ from hr9))
 conv=>lhs;whnf
 exact rq
 refine br ?_ ?_
 intro h;cases sj h
 refine (hK7 _ _).trans ?_
 refine Eq.trans ?_ (Eq.symm (show _=some _ from hr9))
 conv=>lhs;whnf
 exact rq
 refine br ?_ ?_
 intro h;cases sj h
 refine (hK7 _ _).trans ?_
 refine Eq.trans ?_ (Eq.symm (show _=some _ from hr9))
 conv=>lhs;whnf
 exact rq
 refine ca hc (fun _ h=>ih.2.1 h) ?_;intro y17
 refine br ?_ ?_
 exact fun h=>cq (hcont8 (IntKind.i64.wrap ((IntKind.i64.wrap ((IntKind.i64.wrap (s1+1))+x12.f_Body))+x12.f_Else),y17.2) (fun _=>0) h)
 intro h;cases sj h
 refine (hK7 _ _).trans ?_
 refine Eq.trans ?_ (Eq.symm (show _=some _ from hr9))
 conv=>lhs;whnf
 exact rq
 intro h;cases sj h
 exact kq (hr9 (fun _=>0))
 refine lrc ?_ ?_
 intro v e;subst e;cases sj h;rfl
 intro x21 a20 e;subst e
 dsimp only at h
 conv=>lhs;whnf
 revert h
 exact rz
theorem all_stmt_depth : ∀ n, IH_stmt_depth n
  | 0 => ⟨by unfold OK_stmt_depth; intros; rename_i h; exact absurd h (by intro h; cases h), by unfold OK_stmt_depth_1; intros; rename_i h; exact absurd h (by intro h; cases h), by unfold OK_stmt_walk_stmt_depth_1; intros; rename_i h; exact absurd h (by intro h; cases h)⟩
  | n + 1 => have ih := all_stmt_depth n
    ⟨st_stmt_depth n ih, st_stmt_depth_1 n ih, st_stmt_walk_stmt_depth_1 n ih⟩
theorem ok_stmt_depth {n : Nat} : OK_stmt_depth n := (all_stmt_depth n).1
theorem ok_stmt_Depth {n:Nat} ⦃v0_l:(List S_api_Stmt)⦄ ⦃r:Int⦄:m_stmt_Depth n v0_l=some r→CN n 125 [AV.sl 9 (List.map c_api_Stmt v0_l)] []=some (iA r,[]):=by
 intro h;rcases n with _|n;cases h
 rw [m_stmt_Depth] at h
 refine callN_eq' Tryz.func125 (by rfl) rfl rfl (Nat.le_of_ble_eq_true rfl) ?_
 intro call hc;conv=>lhs;whnf
 revert h
 refine cr hc (fun _ h=>ok_stmt_depth h) ?_;intro y1
 exact rz
theorem ok_stmt_kind_has {n:Nat} ⦃v0_k:S_stmt_kind⦄ ⦃v1_part:Int⦄ ⦃r:Bool⦄:m_stmt_kind_has n v0_k v1_part=some r→CN n 143 [AV.agg [sA v0_k.f_word,sA v0_k.f_form,bA v0_k.f_body,bA v0_k.f_more],AV.int .u8 v1_part] []=some (bA r,[]):=by
 intro h;rcases n with _|n;cases h
 rw [m_stmt_kind_has] at h
 refine callN_eq' Tryz.func143 (by rfl) rfl rfl (Nat.le_of_ble_eq_true rfl) ?_
 intro call hc;conv=>lhs;whnf
 revert h
 intro h;refine bind_some2 h ?_;clear h;intro o9 ho9 h
 refine lq (σ:=Int) (τ:=Unit) (ν:=Bool) 0 (fun s1 a3=>stOf 19 [(1,AV.int .u8 v1_part),(2,AV.ptr 0 0),(8,iA (((v0_k.f_form.length:Nat):Int))),(9,iA s1)]) (fun s1 a3=>[Ob.var 145 [sA v0_k.f_word,sA v0_k.f_form,bA v0_k.f_body,bA v0_k.f_more]]) (fun _ a13=>stOf 19 []) (fun _ a13=>[Ob.var 145 [sA v0_k.f_word,sA v0_k.f_form,bA v0_k.f_body,bA v0_k.f_more]]) (fun v=>(bA v,[])) (fun k s=>stmt_kind_has_L0 n v0_k v1_part k s) (fun s=>rfl) o9 n 0 (fun _=>0) ho9 ?_ ?_
 intro k2 s1 a3 K4 cont5 hK6 hcont7 h hr8
 replace h:stmt_kind_has_L0 n v0_k v1_part (k2+1) s1=some o9:=h
 rw [stmt_kind_has_L0] at h
 conv=>lhs;whnf
 revert h
 refine br ?_ ?_
 refine ixs ?_;intro x11
 refine br ?_ ?_
 intro h;cases sj h
 refine (hK6 _ _).trans ?_
 refine Eq.trans ?_ (Eq.symm (show _=some _ from hr8))
 conv=>lhs;whnf
 exact rq
 exact fun h=>cq (hcont7 (IntKind.i64.wrap (s1+1)) (fun _=>0) h)
 intro h;cases sj h
 exact kq (hr8 (fun _=>0))
 refine lrc ?_ ?_
 intro v e;subst e;cases sj h;rfl
 intro t a13 e;subst e
 dsimp only at h
 conv=>lhs;whnf
 revert h
 exact rz
theorem ok_stmt_fits_1 {n:Nat} ⦃v0_part:Int⦄ ⦃v1_s:(List UInt8)⦄ ⦃o0_word:(List UInt8)⦄ ⦃o0_form:(List UInt8)⦄ ⦃o0_body:Bool⦄ ⦃o0_more:Bool⦄ ⦃r:Bool⦄:m_stmt_fits_1 n v0_part v1_s o0_word o0_form o0_body o0_more=some r→CN n 142 [AV.int .u8 v0_part,sA v1_s,AV.ptr 0 0] [Ob.var 145 [sA o0_word,sA o0_form,bA o0_body,bA o0_more]]=some (bA r,[Ob.var 145 [sA o0_word,sA o0_form,bA o0_body,bA o0_more]]):=by
 intro h;rcases n with _|n;cases h
 rw [m_stmt_fits_1] at h
 refine callN_eq' Tryz.func142 (by rfl) rfl rfl (Nat.le_of_ble_eq_true rfl) ?_
 intro call hc;conv=>lhs;whnf
 revert h
 refine ca hc (fun y1 h=>(show CN n 143 [AV.agg [sA o0_word,sA o0_form,bA o0_body,bA o0_more],AV.int .u8 v0_part] []=some (bA y1,[]) from ok_stmt_kind_has (r:=y1) h)) ?_;intro y1
 refine br ?_ ?_
 refine ca hc (fun _ h=>ok_scan_Name h) ?_;intro y4
 refine br ?_ ?_
 exact rz
 refine ca hc (fun y7 h=>(show CN n 143 [AV.agg [sA o0_word,sA o0_form,bA o0_body,bA o0_more],AV.int .u8 v0_part] []=some (bA y7,[]) from ok_stmt_kind_has (r:=y7) h)) ?_;intro y7
 refine br ?_ ?_
 exact rz
 exact rz
 refine ca hc (fun y10 h=>(show CN n 143 [AV.agg [sA o0_word,sA o0_form,bA o0_body,bA o0_more],AV.int .u8 v0_part] []=some (bA y10,[]) from ok_stmt_kind_has (r:=y10) h)) ?_;intro y10
 refine br ?_ ?_
 exact rz
 exact rz
theorem ok_stmt_plain {n:Nat} ⦃v0_l:(List S_api_Node)⦄ ⦃r:Bool⦄:m_stmt_plain n v0_l=some r→CN n 145 [AV.sl 5 (List.map c_api_Node v0_l)] []=some (bA r,[]):=by
 intro h;rcases n with _|n;cases h
 rw [m_stmt_plain] at h
 refine callN_eq' Tryz.func145 (by rfl) rfl rfl (Nat.le_of_ble_eq_true rfl) ?_
 intro call hc;conv=>lhs;whnf
 revert h
 refine ca hc (fun _ h=>ok_expr_Names h) ?_;intro y1
 intro h;refine bind_some2 h ?_;clear h;intro o11 ho11 h
 refine lq (σ:=Int) (τ:=Unit) (ν:=Bool) 0 (fun s3 a5=>stOf 18 [(0,AV.sl 5 (List.map c_api_Node v0_l)),(6,AV.sl 5 (List.map c_api_Node y1)),(7,iA (((y1.length:Nat):Int))),(8,iA s3)]) (fun s3 a5=>[]) (fun _ a15=>stOf 18 [(0,AV.sl 5 (List.map c_api_Node v0_l))]) (fun _ a15=>[]) (fun v=>(bA v,[])) (fun k s=>stmt_plain_L0 n y1 k s) (fun s=>rfl) o11 n 0 (fun _=>0) ho11 ?_ ?_
 intro k4 s3 a5 K6 cont7 hK8 hcont9 h hr10
 replace h:stmt_plain_L0 n y1 (k4+1) s3=some o11:=h
 rw [stmt_plain_L0] at h
 conv=>lhs;whnf
 revert h
 refine br ?_ ?_
 refine ix ?_;intro x13
 refine br ?_ ?_
 intro h;cases sj h
 refine (hK8 _ _).trans ?_
 refine Eq.trans ?_ (Eq.symm (show _=some _ from hr10))
 conv=>lhs;whnf
 exact rq
 exact fun h=>cq (hcont9 (IntKind.i64.wrap (s3+1)) (fun _=>0) h)
 intro h;cases sj h
 exact kq (hr10 (fun _=>0))
 refine lrc ?_ ?_
 intro v e;subst e;cases sj h;rfl
 intro t a15 e;subst e
 dsimp only at h
 conv=>lhs;whnf
 revert h
 refine ca hc (fun _ h=>ok_expr_Right h) ?_;intro y16
 exact rz
theorem ok_stmt_fits_2 {n:Nat} ⦃v0_part:Int⦄ ⦃v1_l:(List S_api_Node)⦄ ⦃o0_word:(List UInt8)⦄ ⦃o0_form:(List UInt8)⦄ ⦃o0_body:Bool⦄ ⦃o0_more:Bool⦄ ⦃r:Bool⦄:m_stmt_fits_2 n v0_part v1_l o0_word o0_form o0_body o0_more=some r→CN n 144 [AV.int .u8 v0_part,AV.sl 5 (List.map c_api_Node v1_l),AV.ptr 0 0] [Ob.var 145 [sA o0_word,sA o0_form,bA o0_body,bA o0_more]]=some (bA r,[Ob.var 145 [sA o0_word,sA o0_form,bA o0_body,bA o0_more]]):=by
 intro h;rcases n with _|n;cases h
 rw [m_stmt_fits_2] at h
 refine callN_eq' Tryz.func144 (by rfl) rfl rfl (Nat.le_of_ble_eq_true rfl) ?_
 intro call hc;conv=>lhs;whnf
 revert h
 refine ca hc (fun y1 h=>(show CN n 143 [AV.agg [sA o0_word,sA o0_form,bA o0_body,bA o0_more],AV.int .u8 v0_part] []=some (bA y1,[]) from ok_stmt_kind_has (r:=y1) h)) ?_;intro y1
 refine br ?_ ?_
 refine ca hc (fun _ h=>ok_stmt_plain h) ?_;intro y4
 refine br ?_ ?_
 exact rz
 refine ca hc (fun y7 h=>(show CN n 143 [AV.agg [sA o0_word,sA o0_form,bA o0_body,bA o0_more],AV.int .u8 v0_part] []=some (bA y7,[]) from ok_stmt_kind_has (r:=y7) h)) ?_;intro y7
 refine br ?_ ?_
 exact rz
 exact rz
 refine ca hc (fun y10 h=>(show CN n 143 [AV.agg [sA o0_word,sA o0_form,bA o0_body,bA o0_more],AV.int .u8 v0_part] []=some (bA y10,[]) from ok_stmt_kind_has (r:=y10) h)) ?_;intro y10
 refine br ?_ ?_
 exact rz
 exact rz
theorem ok_stmt_kinds {n:Nat} ⦃r:(List S_stmt_kind)⦄:m_stmt_kinds n=some r→CN n 148 [] []=some (AV.sl 4 (List.map c_stmt_kind r),[]):=by
 intro h;rcases n with _|n;cases h
 rw [m_stmt_kinds] at h
 refine callN_eq' Tryz.func148 (by rfl) rfl rfl (Nat.le_of_ble_eq_true rfl) ?_
 intro call hc;conv=>lhs;whnf
 revert h
 exact rz
theorem ok_stmt_of {n:Nat} ⦃v0_n:Int⦄ ⦃r:(S_stmt_kind×Bool)⦄:m_stmt_of n v0_n=some r→CN n 141 [iA v0_n] []=some (AV.tup [AV.agg [sA r.1.f_word,sA r.1.f_form,bA r.1.f_body,bA r.1.f_more],bA r.2],[]):=by
 intro h;rcases n with _|n;cases h
 rw [m_stmt_of] at h
 refine callN_eq' Tryz.func141 (by rfl) rfl rfl (Nat.le_of_ble_eq_true rfl) ?_
 intro call hc;conv=>lhs;whnf
 revert h
 refine ca hc (fun _ h=>ok_stmt_kinds h) ?_;intro y1
 refine br ?_ ?_
 exact rz
 refine br ?_ ?_
 exact rz
 refine ix ?_;intro x5
 exact rz
theorem ok_stmt_fits {n:Nat} ⦃v0_x:S_api_Stmt⦄ ⦃r:Bool⦄:m_stmt_fits n v0_x=some r→CN n 126 [AV.agg [iA v0_x.f_Kind,sA v0_x.f_Reg,sA v0_x.f_Loc,AV.sl 5 (List.map c_api_Node v0_x.f_E),AV.sl 5 (List.map c_api_Node v0_x.f_F),bA v0_x.f_Ne,iA v0_x.f_Body,iA v0_x.f_Else,iA v0_x.f_At]] []=some (bA r,[]):=by
 intro h;rcases n with _|n;cases h
 rw [m_stmt_fits] at h
 refine callN_eq' Tryz.func126 (by rfl) rfl rfl (Nat.le_of_ble_eq_true rfl) ?_
 intro call hc;conv=>lhs;whnf
 revert h
 refine ca hc (fun _ h=>ok_stmt_of h) ?_;intro y1
 refine br ?_ ?_
 refine br ?_ ?_
 exact rz
 refine br ?_ ?_
 refine ca hc (fun _ h=>ok_stmt_kind_has h) ?_;intro y6
 refine br ?_ ?_
 refine ca hc (fun _ h=>ok_stmt_fits_1 h) ?_;intro y9
 refine br ?_ ?_
 refine ca hc (fun _ h=>ok_stmt_fits_1 h) ?_;intro y12
 refine br ?_ ?_
 refine ca hc (fun _ h=>ok_stmt_fits_2 h) ?_;intro y15
 refine br ?_ ?_
 refine ca hc (fun _ h=>ok_stmt_fits_2 h) ?_;intro y18
 refine br ?_ ?_
 refine br ?_ ?_
 refine br ?_ ?_
 exact rz
 exact rz
 refine br ?_ ?_
 refine br ?_ ?_
 exact rz
 exact rz
 exact rz
 exact rz
 exact rz
 exact rz
 exact rz
 exact rz
 refine ca hc (fun _ h=>ok_stmt_fits_1 h) ?_;intro y25
 refine br ?_ ?_
 refine ca hc (fun _ h=>ok_stmt_fits_1 h) ?_;intro y28
 refine br ?_ ?_
 refine ca hc (fun _ h=>ok_stmt_fits_2 h) ?_;intro y31
 refine br ?_ ?_
 refine ca hc (fun _ h=>ok_stmt_fits_2 h) ?_;intro y34
 refine br ?_ ?_
 refine br ?_ ?_
 refine br ?_ ?_
 exact rz
 exact rz
 refine br ?_ ?_
 refine br ?_ ?_
 exact rz
 exact rz
 exact rz
 exact rz
 exact rz
 exact rz
 exact rz
 exact rz
theorem ok_stmt_Right {n:Nat} ⦃v0_l:(List S_api_Stmt)⦄ ⦃r:Bool⦄:m_stmt_Right n v0_l=some r→CN n 96 [AV.sl 9 (List.map c_api_Stmt v0_l)] []=some (bA r,[]):=by
 intro h;rcases n with _|n;cases h
 rw [m_stmt_Right] at h
 refine callN_eq' Tryz.func96 (by rfl) rfl rfl (Nat.le_of_ble_eq_true rfl) ?_
 intro call hc;conv=>lhs;whnf
 revert h
 refine ca hc (fun _ h=>ok_stmt_Depth h) ?_;intro y1
 refine br ?_ ?_
 exact rz
 refine br ?_ ?_
 exact rz
 refine br ?_ ?_
 exact rz
 intro h;refine bind_some2 h ?_;clear h;intro o14 ho14 h
 refine lq (σ:=Int) (τ:=Unit) (ν:=Bool) 0 (fun s6 a8=>stOf 29 [(19,AV.sl 9 (List.map c_api_Stmt v0_l)),(20,iA (((v0_l.length:Nat):Int))),(21,iA s6)]) (fun s6 a8=>[]) (fun _ a20=>stOf 29 []) (fun _ a20=>[]) (fun v=>(bA v,[])) (fun k s=>stmt_Right_L0 n v0_l k s) (fun s=>rfl) o14 n 0 (fun _=>0) ho14 ?_ ?_
 intro k7 s6 a8 K9 cont10 hK11 hcont12 h hr13
 replace h:stmt_Right_L0 n v0_l (k7+1) s6=some o14:=h
 rw [stmt_Right_L0] at h
 conv=>lhs;whnf
 revert h
 refine br ?_ ?_
 refine ix ?_;intro x16
 refine ca hc (fun _ h=>ok_stmt_fits h) ?_;intro y17
 refine br ?_ ?_
 exact fun h=>cq (hcont12 (IntKind.i64.wrap (s6+1)) (fun _=>0) h)
 intro h;cases sj h
 refine (hK11 _ _).trans ?_
 refine Eq.trans ?_ (Eq.symm (show _=some _ from hr13))
 conv=>lhs;whnf
 exact rq
 intro h;cases sj h
 exact kq (hr13 (fun _=>0))
 refine lrc ?_ ?_
 intro v e;subst e;cases sj h;rfl
 intro t a20 e;subst e
 dsimp only at h
 conv=>lhs;whnf
 revert h
 exact rz
theorem ok_stmt_head {n:Nat} ⦃v0_x:S_api_Stmt⦄ ⦃r:(List UInt8)⦄:m_stmt_head n v0_x=some r→CN n 130 [AV.agg [iA v0_x.f_Kind,sA v0_x.f_Reg,sA v0_x.f_Loc,AV.sl 5 (List.map c_api_Node v0_x.f_E),AV.sl 5 (List.map c_api_Node v0_x.f_F),bA v0_x.f_Ne,iA v0_x.f_Body,iA v0_x.f_Else,iA v0_x.f_At]] []=some (sA r,[]):=by
 intro h;rcases n with _|n;cases h
 rw [m_stmt_head] at h
 refine callN_eq' Tryz.func130 (by rfl) rfl rfl (Nat.le_of_ble_eq_true rfl) ?_
 intro call hc;conv=>lhs;whnf
 revert h
 refine ca hc (fun _ h=>ok_stmt_of h) ?_;intro y1
 intro h;refine bind_some2 h ?_;clear h;intro o13 ho13 h
 refine lq (σ:=((List UInt8)×Int×Bool)) (τ:=((List UInt8)×Bool)) (ν:=(List UInt8)) 0 (fun (s3,s4,s5) a7=>stOf 76 [(1,AV.ptr 0 0),(3,AV.ptr 1 0),(5,sA s3),(18,iA (((y1.1.f_form.length:Nat):Int))),(19,iA s4)]) (fun (s3,s4,s5) a7=>[Ob.var 82 [iA v0_x.f_Kind,sA v0_x.f_Reg,sA v0_x.f_Loc,AV.sl 5 (List.map c_api_Node v0_x.f_E),AV.sl 5 (List.map c_api_Node v0_x.f_F),bA s5,iA v0_x.f_Body,iA v0_x.f_Else,iA v0_x.f_At],Ob.var 145 [sA y1.1.f_word,sA y1.1.f_form,bA y1.1.f_body,bA y1.1.f_more]]) (fun (x41,x42) a40=>stOf 76 [(5,sA x41)]) (fun (x41,x42) a40=>[Ob.var 82 [iA v0_x.f_Kind,sA v0_x.f_Reg,sA v0_x.f_Loc,AV.sl 5 (List.map c_api_Node v0_x.f_E),AV.sl 5 (List.map c_api_Node v0_x.f_F),bA x42,iA v0_x.f_Body,iA v0_x.f_Else,iA v0_x.f_At],Ob.var 145 [sA y1.1.f_word,sA y1.1.f_form,bA y1.1.f_body,bA y1.1.f_more]]) (fun v=>(sA v,[])) (fun k s=>stmt_head_L0 n v0_x y1 k s.1 s.2.1 s.2.2) (fun s=>rfl) o13 n (y1.1.f_word,0,v0_x.f_Ne) (fun _=>0) ho13 ?_ ?_
 intro k6 ss a7 K8 cont9 hK10 hcont11 h hr12
 obtain ⟨s3,s4,s5⟩:=ss
 replace h:stmt_head_L0 n v0_x y1 (k6+1) s3 s4 s5=some o13:=h
 rw [stmt_head_L0] at h
 conv=>lhs;whnf
 revert h
 refine br ?_ ?_
 refine ixs ?_;intro x15
 refine br ?_ ?_
 intro h
 refine chk_some2 h ?_;clear h;intro hc17 h
 refine bif_pos hc17 ?_
 try simp only [ls]
 conv=>lhs;whnf
 revert h
 intro h
 refine chk_some2 h ?_;clear h;intro hc18 h
 refine bif_pos hc18 ?_
 try simp only [ls]
 conv=>lhs;whnf
 revert h
 exact fun h=>cq (hcont11 ((s3++(([32]:List UInt8)++v0_x.f_Reg)),IntKind.i64.wrap (s4+1),s5) (fun _=>0) h)
 refine br ?_ ?_
 intro h
 refine chk_some2 h ?_;clear h;intro hc20 h
 refine bif_pos hc20 ?_
 try simp only [ls]
 conv=>lhs;whnf
 revert h
 intro h
 refine chk_some2 h ?_;clear h;intro hc21 h
 refine bif_pos hc21 ?_
 try simp only [ls]
 conv=>lhs;whnf
 revert h
 exact fun h=>cq (hcont11 ((s3++(([32]:List UInt8)++v0_x.f_Loc)),IntKind.i64.wrap (s4+1),s5) (fun _=>0) h)
 refine br ?_ ?_
 refine ca hc (fun _ h=>ok_expr_Show h) ?_;intro y23
 intro h
 refine chk_some2 h ?_;clear h;intro hc25 h
 refine bif_pos hc25 ?_
 try simp only [ls]
 conv=>lhs;whnf
 revert h
 intro h
 refine chk_some2 h ?_;clear h;intro hc26 h
 refine bif_pos hc26 ?_
 try simp only [ls]
 conv=>lhs;whnf
 revert h
 exact fun h=>cq (hcont11 ((s3++(([32]:List UInt8)++y23)),IntKind.i64.wrap (s4+1),s5) (fun _=>0) h)
 refine br ?_ ?_
 refine ca hc (fun _ h=>ok_expr_Show h) ?_;intro y28
 intro h
 refine chk_some2 h ?_;clear h;intro hc30 h
 refine bif_pos hc30 ?_
 try simp only [ls]
 conv=>lhs;whnf
 revert h
 intro h
 refine chk_some2 h ?_;clear h;intro hc31 h
 refine bif_pos hc31 ?_
 try simp only [ls]
 conv=>lhs;whnf
 revert h
 exact fun h=>cq (hcont11 ((s3++(([32]:List UInt8)++y28)),IntKind.i64.wrap (s4+1),s5) (fun _=>0) h)
 refine br ?_ ?_
 refine br ?_ ?_
 intro h
 refine chk_some2 h ?_;clear h;intro hc34 h
 refine bif_pos hc34 ?_
 try simp only [ls]
 conv=>lhs;whnf
 revert h
 exact fun h=>cq (hcont11 ((s3++([32,33,61]:List UInt8)),IntKind.i64.wrap (s4+1),true) (fun _=>0) h)
 intro h
 refine chk_some2 h ?_;clear h;intro hc35 h
 refine bif_pos hc35 ?_
 try simp only [ls]
 conv=>lhs;whnf
 revert h
 exact fun h=>cq (hcont11 ((s3++([32,61,61]:List UInt8)),IntKind.i64.wrap (s4+1),false) (fun _=>0) h)
 refine br ?_ ?_
 intro h
 refine chk_some2 h ?_;clear h;intro hc37 h
 refine bif_pos hc37 ?_
 try simp only [ls]
 conv=>lhs;whnf
 revert h
 exact fun h=>cq (hcont11 ((s3++([32,61]:List UInt8)),IntKind.i64.wrap (s4+1),s5) (fun _=>0) h)
 refine cp ?_
 intro h
 refine chk_some2 h ?_;clear h;intro hc39 h
 refine bif_pos hc39 ?_
 try simp only [ls]
 conv=>lhs;whnf
 revert h
 exact fun h=>cq (hcont11 ((s3++([UInt8.ofNat (IntKind.i32.wrap ((x15.toNat:Int))).toNat])),IntKind.i64.wrap (s4+1),s5) (fun _=>0) h)
 intro h;cases sj h
 exact kq (hr12 (fun _=>0))
 refine lrc ?_ ?_
 intro v e;subst e;cases sj h;rfl
 intro t a40 e;subst e
 obtain ⟨x41,x42⟩:=t
 dsimp only at h
 conv=>lhs;whnf
 revert h
 exact rz
theorem ok_stmt_pad {n:Nat} ⦃v0_deep:Int⦄ ⦃r:(List UInt8)⦄:m_stmt_pad n v0_deep=some r→CN n 129 [iA v0_deep] []=some (sA r,[]):=by
 intro h;rcases n with _|n;cases h
 rw [m_stmt_pad] at h
 refine callN_eq' Tryz.func129 (by rfl) rfl rfl (Nat.le_of_ble_eq_true rfl) ?_
 intro call hc;conv=>lhs;whnf
 revert h
 intro h;refine bind_some2 h ?_;clear h;intro o10 ho10 h
 refine lq (σ:=((List UInt8)×Int)) (τ:=(List UInt8)) (ν:=(List UInt8)) 0 (fun (s1,s2) a4=>stOf 11 [(3,sA s1),(4,iA v0_deep),(5,iA s2)]) (fun (s1,s2) a4=>[]) (fun x14 a13=>stOf 11 [(3,sA x14)]) (fun x14 a13=>[]) (fun v=>(sA v,[])) (fun k s=>stmt_pad_L0 n v0_deep k s.1 s.2) (fun s=>rfl) o10 n (([]:List UInt8),0) (fun _=>0) ho10 ?_ ?_
 intro k3 ss a4 K5 cont6 hK7 hcont8 h hr9
 obtain ⟨s1,s2⟩:=ss
 replace h:stmt_pad_L0 n v0_deep (k3+1) s1 s2=some o10:=h
 rw [stmt_pad_L0] at h
 conv=>lhs;whnf
 revert h
 refine br ?_ ?_
 intro h
 refine chk_some2 h ?_;clear h;intro hc12 h
 refine bif_pos hc12 ?_
 try simp only [ls]
 conv=>lhs;whnf
 revert h
 exact fun h=>cq (hcont8 ((s1++([32,32]:List UInt8)),IntKind.i64.wrap (s2+1)) (fun _=>0) h)
 intro h;cases sj h
 exact kq (hr9 (fun _=>0))
 refine lrc ?_ ?_
 intro v e;subst e;cases sj h;rfl
 intro x14 a13 e;subst e
 dsimp only at h
 conv=>lhs;whnf
 revert h
 exact rz
def OK_stmt_show (n:Nat):Prop:=∀ ⦃v0_l:(List S_api_Stmt)⦄ ⦃v1_from:Int⦄ ⦃v2_to:Int⦄ ⦃v3_deep:Int⦄ ⦃r:(List UInt8)⦄,m_stmt_show n v0_l v1_from v2_to v3_deep=some r→CN n 97 [AV.sl 9 (List.map c_api_Stmt v0_l),iA v1_from,iA v2_to,iA v3_deep] []=some (sA r,[])
def OK_stmt_show_1 (n:Nat):Prop:=∀ ⦃v0_i:Int⦄ ⦃v1_mid:Int⦄ ⦃v2_end:Int⦄ ⦃o0:(List UInt8)⦄ ⦃o1:Int⦄ ⦃o2:(List S_api_Stmt)⦄ ⦃r:(Bool×(List UInt8))⦄,m_stmt_show_1 n v0_i v1_mid v2_end o0 o1 o2=some r→CN n 128 [iA v0_i,iA v1_mid,iA v2_end,AV.ptr 0 0,AV.ptr 1 0,AV.ptr 2 0] [Ob.var 9 [sA o0],Ob.var 3 [iA o1],Ob.var 50 [AV.sl 9 (List.map c_api_Stmt o2)]]=some (bA r.1,[Ob.var 9 [sA r.2],Ob.var 3 [iA o1],Ob.var 50 [AV.sl 9 (List.map c_api_Stmt o2)]])
def OK_stmt_walk_stmt_show_1 (n:Nat):Prop:=∀ ⦃v0_l:(List S_api_Stmt)⦄ ⦃v1_from:Int⦄ ⦃v2_to:Int⦄ ⦃o0:(List UInt8)⦄ ⦃o1:Int⦄ ⦃o2:(List S_api_Stmt)⦄ ⦃r:(Bool×(List UInt8))⦄,m_stmt_walk_stmt_show_1 n v0_l v1_from v2_to o0 o1 o2=some r→CN n 127 [AV.sl 9 (List.map c_api_Stmt v0_l),iA v1_from,iA v2_to,AV.func 128 [] [AV.ptr 0 0,AV.ptr 1 0,AV.ptr 2 0]] [Ob.var 9 [sA o0],Ob.var 3 [iA o1],Ob.var 50 [AV.sl 9 (List.map c_api_Stmt o2)]]=some (bA r.1,[Ob.var 9 [sA r.2],Ob.var 3 [iA o1],Ob.var 50 [AV.sl 9 (List.map c_api_Stmt o2)]])
def IH_stmt_show (n : Nat) : Prop := OK_stmt_show n ∧ OK_stmt_show_1 n ∧ OK_stmt_walk_stmt_show_1 n
theorem st_stmt_show (n:Nat) (ih:IH_stmt_show n):OK_stmt_show (n+1):=by
 intro v0_l v1_from v2_to v3_deep r h
 rw [m_stmt_show] at h
 refine callN_eq' Tryz.func97 (by rfl) rfl rfl (Nat.le_of_ble_eq_true rfl) ?_
 intro call hc;conv=>lhs;whnf
 revert h
 refine cr hc (fun _ h=>ih.2.2 h) ?_;intro y1
 exact rz
theorem st_stmt_show_1 (n:Nat) (ih:IH_stmt_show n):OK_stmt_show_1 (n+1):=by
 intro v0_i v1_mid v2_end o0 o1 o2 r h
 rw [m_stmt_show_1] at h
 refine callN_eq' Tryz.func128 (by rfl) rfl rfl (Nat.le_of_ble_eq_true rfl) ?_
 intro call hc;conv=>lhs;whnf
 revert h
 refine ca hc (fun _ h=>ok_stmt_pad h) ?_;intro y1
 refine ix ?_;intro x3
 refine ca hc (fun _ h=>ok_stmt_head h) ?_;intro y4
 intro h
 refine chk_some2 h ?_;clear h;intro hc6 h
 refine bif_pos hc6 ?_
 try simp only [ls]
 conv=>lhs;whnf
 revert h
 intro h
 refine chk_some2 h ?_;clear h;intro hc7 h
 refine bif_pos hc7 ?_
 try simp only [ls]
 conv=>lhs;whnf
 revert h
 refine ix ?_;intro x8
 refine ca hc (fun _ h=>ok_stmt_nests h) ?_;intro y9
 refine br ?_ ?_
 refine ca hc (fun _ h=>ih.1 h) ?_;intro y12
 intro h
 refine chk_some2 h ?_;clear h;intro hc14 h
 refine bif_pos hc14 ?_
 try simp only [ls]
 conv=>lhs;whnf
 revert h
 refine ca hc (fun _ h=>ok_stmt_pad h) ?_;intro y15
 intro h
 refine chk_some2 h ?_;clear h;intro hc17 h
 refine bif_pos hc17 ?_
 try simp only [ls]
 conv=>lhs;whnf
 revert h
 intro h
 refine chk_some2 h ?_;clear h;intro hc18 h
 refine bif_pos hc18 ?_
 try simp only [ls]
 conv=>lhs;whnf
 revert h
 refine br ?_ ?_
 refine ca hc (fun _ h=>ih.1 h) ?_;intro y20
 intro h
 refine chk_some2 h ?_;clear h;intro hc22 h
 refine bif_pos hc22 ?_
 try simp only [ls]
 conv=>lhs;whnf
 revert h
 refine ca hc (fun _ h=>ok_stmt_pad h) ?_;intro y23
 intro h
 refine chk_some2 h ?_;clear h;intro hc25 h
 refine bif_pos hc25 ?_
 try simp only [ls]
 conv=>lhs;whnf
 revert h
 intro h
 refine chk_some2 h ?_;clear h;intro hc26 h
 refine bif_pos hc26 ?_
 try simp only [ls]
 conv=>lhs;whnf
 revert h
 intro h
 refine chk_some2 h ?_;clear h;intro hc27 h
 refine bif_pos hc27 ?_
 try simp only [ls]
 conv=>lhs;whnf
 revert h
 intro h
 refine chk_some2 h ?_;clear h;intro hc28 h
 refine bif_pos hc28 ?_
 try simp only [ls]
 conv=>lhs;whnf
 revert h
 exact rz
 intro h
 refine chk_some2 h ?_;clear h;intro hc29 h
 refine bif_pos hc29 ?_
 try simp only [ls]
 conv=>lhs;whnf
 revert h
 intro h
 refine chk_some2 h ?_;clear h;intro hc30 h
 refine bif_pos hc30 ?_
 try simp only [ls]
 conv=>lhs;whnf
 revert h
 exact rz
 intro h
 refine chk_some2 h ?_;clear h;intro hc31 h
 refine bif_pos hc31 ?_
 try simp only [ls]
 conv=>lhs;whnf
 revert h
 exact rz
theorem st_stmt_walk_stmt_show_1 (n:Nat) (ih:IH_stmt_show n):OK_stmt_walk_stmt_show_1 (n+1):=by
 intro v0_l v1_from v2_to o0 o1 o2 r h
 rw [m_stmt_walk_stmt_show_1] at h
 refine callN_eq' Tryz.func127 (by rfl) rfl rfl (Nat.le_of_ble_eq_true rfl) ?_
 intro call hc;conv=>lhs;whnf
 revert h
 intro h;refine bind_some2 h ?_;clear h;intro o10 ho10 h
 refine lq (σ:=(Int×(List UInt8))) (τ:=(List UInt8)) (ν:=(Bool×(List UInt8))) 0 (fun (s1,s2) a4=>stOf 63 [(0,AV.sl 9 (List.map c_api_Stmt v0_l)),(1,iA s1),(2,iA v2_to),(3,AV.func 128 [] [AV.ptr 0 0,AV.ptr 1 0,AV.ptr 2 0])]) (fun (s1,s2) a4=>[Ob.var 9 [sA s2],Ob.var 3 [iA o1],Ob.var 50 [AV.sl 9 (List.map c_api_Stmt o2)]]) (fun x21 a20=>stOf 63 []) (fun x21 a20=>[Ob.var 9 [sA x21],Ob.var 3 [iA o1],Ob.var 50 [AV.sl 9 (List.map c_api_Stmt o2)]]) (fun v=>(bA v.1,[Ob.var 9 [sA v.2],Ob.var 3 [iA o1],Ob.var 50 [AV.sl 9 (List.map c_api_Stmt o2)]])) (fun k s=>stmt_walk_stmt_show_1_L0 n (m_stmt_show_1 n) v0_l v2_to o1 o2 k s.1 s.2) (fun s=>rfl) o10 n (v1_from,o0) (fun _=>0) ho10 ?_ ?_
 intro k3 ss a4 K5 cont6 hK7 hcont8 h hr9
 obtain ⟨s1,s2⟩:=ss
 replace h:stmt_walk_stmt_show_1_L0 n (m_stmt_show_1 n) v0_l v2_to o1 o2 (k3+1) s1 s2=some o10:=h
 rw [stmt_walk_stmt_show_1_L0] at h
 conv=>lhs;whnf
 revert h
 refine br ?_ ?_
 refine ix ?_;intro x12
 refine br ?_ ?_
 intro h;cases sj h
 refine (hK7 _ _).trans ?_
 refine Eq.trans ?_ (Eq.symm (show _=some _ from hr9))
 conv=>lhs;whnf
 exact rq
 refine br ?_ ?_
 intro h;cases sj h
 refine (hK7 _ _).trans ?_
 refine Eq.trans ?_ (Eq.symm (show _=some _ from hr9))
 conv=>lhs;whnf
 exact rq
 refine br ?_ ?_
 intro h;cases sj h
 refine (hK7 _ _).trans ?_
 refine Eq.trans ?_ (Eq.symm (show _=some _ from hr9))
 conv=>lhs;whnf
 exact rq
 refine br ?_ ?_
 intro h;cases sj h
 refine (hK7 _ _).trans ?_
 refine Eq.trans ?_ (Eq.symm (show _=some _ from hr9))
 conv=>lhs;whnf
 exact rq
 refine ca hc (fun _ h=>ih.2.1 h) ?_;intro y17
 refine br ?_ ?_
 exact fun h=>cq (hcont8 (IntKind.i64.wrap ((IntKind.i64.wrap ((IntKind.i64.wrap (s1+1))+x12.f_Body))+x12.f_Else),y17.2) (fun _=>0) h)
 intro h;cases sj h
 refine (hK7 _ _).trans ?_
 refine Eq.trans ?_ (Eq.symm (show _=some _ from hr9))
 conv=>lhs;whnf
 exact rq
 intro h;cases sj h
 exact kq (hr9 (fun _=>0))
 refine lrc ?_ ?_
 intro v e;subst e;cases sj h;rfl
 intro x21 a20 e;subst e
 dsimp only at h
 conv=>lhs;whnf
 revert h
 exact rz
theorem all_stmt_show : ∀ n, IH_stmt_show n
  | 0 => ⟨by unfold OK_stmt_show; intros; rename_i h; exact absurd h (by intro h; cases h), by unfold OK_stmt_show_1; intros; rename_i h; exact absurd h (by intro h; cases h), by unfold OK_stmt_walk_stmt_show_1; intros; rename_i h; exact absurd h (by intro h; cases h)⟩
  | n + 1 => have ih := all_stmt_show n
    ⟨st_stmt_show n ih, st_stmt_show_1 n ih, st_stmt_walk_stmt_show_1 n ih⟩
theorem ok_stmt_show {n : Nat} : OK_stmt_show n := (all_stmt_show n).1
theorem ok_stmt_Show {n:Nat} ⦃v0_l:(List S_api_Stmt)⦄ ⦃v1_deep:Int⦄ ⦃r:(List UInt8)⦄:m_stmt_Show n v0_l v1_deep=some r→CN n 67 [AV.sl 9 (List.map c_api_Stmt v0_l),iA v1_deep] []=some (sA r,[]):=by
 intro h;rcases n with _|n;cases h
 rw [m_stmt_Show] at h
 refine callN_eq' Tryz.func67 (by rfl) rfl rfl (Nat.le_of_ble_eq_true rfl) ?_
 intro call hc;conv=>lhs;whnf
 revert h
 refine br ?_ ?_
 exact rz
 refine br ?_ ?_
 exact rz
 refine ca hc (fun _ h=>ok_stmt_Right h) ?_;intro y3
 refine br ?_ ?_
 refine cr hc (fun _ h=>ok_stmt_show h) ?_;intro y6
 exact rz
 exact rz
end Go.Proofs.YtgelgahilfojdaaGreat
end
section
namespace Go.Proofs.YtgelgahilfojdaaGreat
set_option linter.unusedVariables false
set_option linter.unusedSimpArgs false
set_option maxRecDepth 100000
set_option maxHeartbeats 4000000
theorem ok_prog_number {n:Nat} ⦃v0_n:Int⦄ ⦃r:Bool⦄:m_prog_number n v0_n=some r→CN n 91 [iA v0_n] []=some (bA r,[]):=by
 intro h;rcases n with _|n;cases h
 rw [m_prog_number] at h
 refine callN_eq' Tryz.func91 (by rfl) rfl rfl (Nat.le_of_ble_eq_true rfl) ?_
 intro call hc;conv=>lhs;whnf
 revert h
 refine br ?_ ?_
 exact rz
 exact rz
theorem ok_prog_Right_1 {n:Nat} ⦃v0_i:Int⦄ ⦃o0_Mod:Int⦄ ⦃o0_Locs:(List S_api_Var)⦄ ⦃o0_Threads:(List S_api_Thread)⦄ ⦃o0_Claims:(List S_api_Claim)⦄ ⦃r:Bool⦄:m_prog_Right_1 n v0_i o0_Mod o0_Locs o0_Threads o0_Claims=some r→CN n 89 [iA v0_i,AV.ptr 0 0] [Ob.var 26 [iA o0_Mod,AV.sl 3 (List.map c_api_Var o0_Locs),AV.sl 4 (List.map c_api_Thread o0_Threads),AV.sl 3 (List.map c_api_Claim o0_Claims)]]=some (bA r,[Ob.var 26 [iA o0_Mod,AV.sl 3 (List.map c_api_Var o0_Locs),AV.sl 4 (List.map c_api_Thread o0_Threads),AV.sl 3 (List.map c_api_Claim o0_Claims)]]):=by
 intro h;rcases n with _|n;cases h
 rw [m_prog_Right_1] at h
 refine callN_eq' Tryz.func89 (by rfl) rfl rfl (Nat.le_of_ble_eq_true rfl) ?_
 intro call hc;conv=>lhs;whnf
 revert h
 refine ix ?_;intro x1
 refine ca hc (fun _ h=>ok_scan_Name h) ?_;intro y2
 refine br ?_ ?_
 refine ca hc (fun _ h=>ok_prog_number h) ?_;intro y5
 refine br ?_ ?_
 exact rz
 exact rz
 exact rz
theorem ok_prog_all {n:Nat} ⦃v0_n:Int⦄ ⦃o0_Mod:Int⦄ ⦃o0_Locs:(List S_api_Var)⦄ ⦃o0_Threads:(List S_api_Thread)⦄ ⦃o0_Claims:(List S_api_Claim)⦄ ⦃r:Bool⦄:m_prog_all n v0_n o0_Mod o0_Locs o0_Threads o0_Claims=some r→CN n 88 [iA v0_n,AV.func 89 [] [AV.ptr 0 0]] [Ob.var 26 [iA o0_Mod,AV.sl 3 (List.map c_api_Var o0_Locs),AV.sl 4 (List.map c_api_Thread o0_Threads),AV.sl 3 (List.map c_api_Claim o0_Claims)]]=some (bA r,[Ob.var 26 [iA o0_Mod,AV.sl 3 (List.map c_api_Var o0_Locs),AV.sl 4 (List.map c_api_Thread o0_Threads),AV.sl 3 (List.map c_api_Claim o0_Claims)]]):=by
 intro h;rcases n with _|n;cases h
 rw [m_prog_all] at h
 refine callN_eq' Tryz.func88 (by rfl) rfl rfl (Nat.le_of_ble_eq_true rfl) ?_
 intro call hc;conv=>lhs;whnf
 revert h
 intro h;refine bind_some2 h ?_;clear h;intro o9 ho9 h
 refine lq (σ:=Int) (τ:=Unit) (ν:=Bool) 0 (fun s1 a3=>stOf 15 [(1,AV.func 89 [] [AV.ptr 0 0]),(6,iA v0_n),(7,iA s1)]) (fun s1 a3=>[Ob.var 26 [iA o0_Mod,AV.sl 3 (List.map c_api_Var o0_Locs),AV.sl 4 (List.map c_api_Thread o0_Threads),AV.sl 3 (List.map c_api_Claim o0_Claims)]]) (fun _ a14=>stOf 15 []) (fun _ a14=>[Ob.var 26 [iA o0_Mod,AV.sl 3 (List.map c_api_Var o0_Locs),AV.sl 4 (List.map c_api_Thread o0_Threads),AV.sl 3 (List.map c_api_Claim o0_Claims)]]) (fun v=>(bA v,[Ob.var 26 [iA o0_Mod,AV.sl 3 (List.map c_api_Var o0_Locs),AV.sl 4 (List.map c_api_Thread o0_Threads),AV.sl 3 (List.map c_api_Claim o0_Claims)]])) (fun k s=>prog_all_L0 n v0_n o0_Mod o0_Locs o0_Threads o0_Claims k s) (fun s=>rfl) o9 n 0 (fun _=>0) ho9 ?_ ?_
 intro k2 s1 a3 K4 cont5 hK6 hcont7 h hr8
 replace h:prog_all_L0 n v0_n o0_Mod o0_Locs o0_Threads o0_Claims (k2+1) s1=some o9:=h
 rw [prog_all_L0] at h
 conv=>lhs;whnf
 revert h
 refine br ?_ ?_
 refine ca hc (fun _ h=>ok_prog_Right_1 h) ?_;intro y11
 refine br ?_ ?_
 exact fun h=>cq (hcont7 (IntKind.i64.wrap (s1+1)) (fun _=>0) h)
 intro h;cases sj h
 refine (hK6 _ _).trans ?_
 refine Eq.trans ?_ (Eq.symm (show _=some _ from hr8))
 conv=>lhs;whnf
 exact rq
 intro h;cases sj h
 exact kq (hr8 (fun _=>0))
 refine lrc ?_ ?_
 intro v e;subst e;cases sj h;rfl
 intro t a14 e;subst e
 dsimp only at h
 conv=>lhs;whnf
 revert h
 exact rz
theorem ok_prog_thread_1 {n:Nat} ⦃v0_i:Int⦄ ⦃o0_Name:(List UInt8)⦄ ⦃o0_Regs:(List (List UInt8))⦄ ⦃o0_Body:(List S_api_Stmt)⦄ ⦃o0_At:Int⦄ ⦃r:Bool⦄:m_prog_thread_1 n v0_i o0_Name o0_Regs o0_Body o0_At=some r→CN n 123 [iA v0_i,AV.ptr 0 0] [Ob.var 52 [sA o0_Name,AV.sl 1 (List.map encS o0_Regs),AV.sl 9 (List.map c_api_Stmt o0_Body),iA o0_At]]=some (bA r,[Ob.var 52 [sA o0_Name,AV.sl 1 (List.map encS o0_Regs),AV.sl 9 (List.map c_api_Stmt o0_Body),iA o0_At]]):=by
 intro h;rcases n with _|n;cases h
 rw [m_prog_thread_1] at h
 refine callN_eq' Tryz.func123 (by rfl) rfl rfl (Nat.le_of_ble_eq_true rfl) ?_
 intro call hc;conv=>lhs;whnf
 revert h
 refine ix ?_;intro x1
 refine ca hc (fun _ h=>ok_scan_Name h) ?_;intro y2
 exact rz
theorem ok_prog_all_3 {n:Nat} ⦃v0_n:Int⦄ ⦃o0_Name:(List UInt8)⦄ ⦃o0_Regs:(List (List UInt8))⦄ ⦃o0_Body:(List S_api_Stmt)⦄ ⦃o0_At:Int⦄ ⦃r:Bool⦄:m_prog_all_3 n v0_n o0_Name o0_Regs o0_Body o0_At=some r→CN n 88 [iA v0_n,AV.func 123 [] [AV.ptr 0 0]] [Ob.var 52 [sA o0_Name,AV.sl 1 (List.map encS o0_Regs),AV.sl 9 (List.map c_api_Stmt o0_Body),iA o0_At]]=some (bA r,[Ob.var 52 [sA o0_Name,AV.sl 1 (List.map encS o0_Regs),AV.sl 9 (List.map c_api_Stmt o0_Body),iA o0_At]]):=by
 intro h;rcases n with _|n;cases h
 rw [m_prog_all_3] at h
 refine callN_eq' Tryz.func88 (by rfl) rfl rfl (Nat.le_of_ble_eq_true rfl) ?_
 intro call hc;conv=>lhs;whnf
 revert h
 intro h;refine bind_some2 h ?_;clear h;intro o9 ho9 h
 refine lq (σ:=Int) (τ:=Unit) (ν:=Bool) 0 (fun s1 a3=>stOf 15 [(1,AV.func 123 [] [AV.ptr 0 0]),(6,iA v0_n),(7,iA s1)]) (fun s1 a3=>[Ob.var 52 [sA o0_Name,AV.sl 1 (List.map encS o0_Regs),AV.sl 9 (List.map c_api_Stmt o0_Body),iA o0_At]]) (fun _ a14=>stOf 15 []) (fun _ a14=>[Ob.var 52 [sA o0_Name,AV.sl 1 (List.map encS o0_Regs),AV.sl 9 (List.map c_api_Stmt o0_Body),iA o0_At]]) (fun v=>(bA v,[Ob.var 52 [sA o0_Name,AV.sl 1 (List.map encS o0_Regs),AV.sl 9 (List.map c_api_Stmt o0_Body),iA o0_At]])) (fun k s=>prog_all_3_L0 n v0_n o0_Name o0_Regs o0_Body o0_At k s) (fun s=>rfl) o9 n 0 (fun _=>0) ho9 ?_ ?_
 intro k2 s1 a3 K4 cont5 hK6 hcont7 h hr8
 replace h:prog_all_3_L0 n v0_n o0_Name o0_Regs o0_Body o0_At (k2+1) s1=some o9:=h
 rw [prog_all_3_L0] at h
 conv=>lhs;whnf
 revert h
 refine br ?_ ?_
 refine ca hc (fun _ h=>ok_prog_thread_1 h) ?_;intro y11
 refine br ?_ ?_
 exact fun h=>cq (hcont7 (IntKind.i64.wrap (s1+1)) (fun _=>0) h)
 intro h;cases sj h
 refine (hK6 _ _).trans ?_
 refine Eq.trans ?_ (Eq.symm (show _=some _ from hr8))
 conv=>lhs;whnf
 exact rq
 intro h;cases sj h
 exact kq (hr8 (fun _=>0))
 refine lrc ?_ ?_
 intro v e;subst e;cases sj h;rfl
 intro t a14 e;subst e
 dsimp only at h
 conv=>lhs;whnf
 revert h
 exact rz
theorem ok_prog_thread {n:Nat} ⦃v0_t:S_api_Thread⦄ ⦃r:Bool⦄:m_prog_thread n v0_t=some r→CN n 93 [AV.agg [sA v0_t.f_Name,AV.sl 1 (List.map encS v0_t.f_Regs),AV.sl 9 (List.map c_api_Stmt v0_t.f_Body),iA v0_t.f_At]] []=some (bA r,[]):=by
 intro h;rcases n with _|n;cases h
 rw [m_prog_thread] at h
 refine callN_eq' Tryz.func93 (by rfl) rfl rfl (Nat.le_of_ble_eq_true rfl) ?_
 intro call hc;conv=>lhs;whnf
 revert h
 refine ca hc (fun _ h=>ok_scan_Name h) ?_;intro y1
 refine br ?_ ?_
 refine br ?_ ?_
 refine ca hc (fun _ h=>ok_stmt_Right h) ?_;intro y5
 refine br ?_ ?_
 refine cr hc (fun _ h=>ok_prog_all_3 h) ?_;intro y8
 exact rz
 exact rz
 exact rz
 exact rz
theorem ok_prog_Right_2 {n:Nat} ⦃v0_i:Int⦄ ⦃o0_Mod:Int⦄ ⦃o0_Locs:(List S_api_Var)⦄ ⦃o0_Threads:(List S_api_Thread)⦄ ⦃o0_Claims:(List S_api_Claim)⦄ ⦃r:Bool⦄:m_prog_Right_2 n v0_i o0_Mod o0_Locs o0_Threads o0_Claims=some r→CN n 92 [iA v0_i,AV.ptr 0 0] [Ob.var 26 [iA o0_Mod,AV.sl 3 (List.map c_api_Var o0_Locs),AV.sl 4 (List.map c_api_Thread o0_Threads),AV.sl 3 (List.map c_api_Claim o0_Claims)]]=some (bA r,[Ob.var 26 [iA o0_Mod,AV.sl 3 (List.map c_api_Var o0_Locs),AV.sl 4 (List.map c_api_Thread o0_Threads),AV.sl 3 (List.map c_api_Claim o0_Claims)]]):=by
 intro h;rcases n with _|n;cases h
 rw [m_prog_Right_2] at h
 refine callN_eq' Tryz.func92 (by rfl) rfl rfl (Nat.le_of_ble_eq_true rfl) ?_
 intro call hc;conv=>lhs;whnf
 revert h
 refine ix ?_;intro x1
 refine ca hc (fun _ h=>ok_prog_thread h) ?_;intro y2
 exact rz
theorem ok_prog_all_1 {n:Nat} ⦃v0_n:Int⦄ ⦃o0_Mod:Int⦄ ⦃o0_Locs:(List S_api_Var)⦄ ⦃o0_Threads:(List S_api_Thread)⦄ ⦃o0_Claims:(List S_api_Claim)⦄ ⦃r:Bool⦄:m_prog_all_1 n v0_n o0_Mod o0_Locs o0_Threads o0_Claims=some r→CN n 88 [iA v0_n,AV.func 92 [] [AV.ptr 0 0]] [Ob.var 26 [iA o0_Mod,AV.sl 3 (List.map c_api_Var o0_Locs),AV.sl 4 (List.map c_api_Thread o0_Threads),AV.sl 3 (List.map c_api_Claim o0_Claims)]]=some (bA r,[Ob.var 26 [iA o0_Mod,AV.sl 3 (List.map c_api_Var o0_Locs),AV.sl 4 (List.map c_api_Thread o0_Threads),AV.sl 3 (List.map c_api_Claim o0_Claims)]]):=by
 intro h;rcases n with _|n;cases h
 rw [m_prog_all_1] at h
 refine callN_eq' Tryz.func88 (by rfl) rfl rfl (Nat.le_of_ble_eq_true rfl) ?_
 intro call hc;conv=>lhs;whnf
 revert h
 intro h;refine bind_some2 h ?_;clear h;intro o9 ho9 h
 refine lq (σ:=Int) (τ:=Unit) (ν:=Bool) 0 (fun s1 a3=>stOf 15 [(1,AV.func 92 [] [AV.ptr 0 0]),(6,iA v0_n),(7,iA s1)]) (fun s1 a3=>[Ob.var 26 [iA o0_Mod,AV.sl 3 (List.map c_api_Var o0_Locs),AV.sl 4 (List.map c_api_Thread o0_Threads),AV.sl 3 (List.map c_api_Claim o0_Claims)]]) (fun _ a14=>stOf 15 []) (fun _ a14=>[Ob.var 26 [iA o0_Mod,AV.sl 3 (List.map c_api_Var o0_Locs),AV.sl 4 (List.map c_api_Thread o0_Threads),AV.sl 3 (List.map c_api_Claim o0_Claims)]]) (fun v=>(bA v,[Ob.var 26 [iA o0_Mod,AV.sl 3 (List.map c_api_Var o0_Locs),AV.sl 4 (List.map c_api_Thread o0_Threads),AV.sl 3 (List.map c_api_Claim o0_Claims)]])) (fun k s=>prog_all_1_L0 n v0_n o0_Mod o0_Locs o0_Threads o0_Claims k s) (fun s=>rfl) o9 n 0 (fun _=>0) ho9 ?_ ?_
 intro k2 s1 a3 K4 cont5 hK6 hcont7 h hr8
 replace h:prog_all_1_L0 n v0_n o0_Mod o0_Locs o0_Threads o0_Claims (k2+1) s1=some o9:=h
 rw [prog_all_1_L0] at h
 conv=>lhs;whnf
 revert h
 refine br ?_ ?_
 refine ca hc (fun _ h=>ok_prog_Right_2 h) ?_;intro y11
 refine br ?_ ?_
 exact fun h=>cq (hcont7 (IntKind.i64.wrap (s1+1)) (fun _=>0) h)
 intro h;cases sj h
 refine (hK6 _ _).trans ?_
 refine Eq.trans ?_ (Eq.symm (show _=some _ from hr8))
 conv=>lhs;whnf
 exact rq
 intro h;cases sj h
 exact kq (hr8 (fun _=>0))
 refine lrc ?_ ?_
 intro v e;subst e;cases sj h;rfl
 intro t a14 e;subst e
 dsimp only at h
 conv=>lhs;whnf
 revert h
 exact rz
theorem ok_prog_word {n:Nat} ⦃v0_kind:Int⦄ ⦃r:(List UInt8)⦄:m_prog_word n v0_kind=some r→CN n 68 [iA v0_kind] []=some (sA r,[]):=by
 intro h;rcases n with _|n;cases h
 rw [m_prog_word] at h
 refine callN_eq' Tryz.func68 (by rfl) rfl rfl (Nat.le_of_ble_eq_true rfl) ?_
 intro call hc;conv=>lhs;whnf
 revert h
 refine br ?_ ?_
 exact rz
 refine br ?_ ?_
 exact rz
 refine br ?_ ?_
 exact rz
 exact rz
theorem ok_prog_claim {n:Nat} ⦃v0_c:S_api_Claim⦄ ⦃r:Bool⦄:m_prog_claim n v0_c=some r→CN n 95 [AV.agg [iA v0_c.f_Kind,AV.sl 5 (List.map c_api_Node v0_c.f_E),iA v0_c.f_At]] []=some (bA r,[]):=by
 intro h;rcases n with _|n;cases h
 rw [m_prog_claim] at h
 refine callN_eq' Tryz.func95 (by rfl) rfl rfl (Nat.le_of_ble_eq_true rfl) ?_
 intro call hc;conv=>lhs;whnf
 revert h
 refine ca hc (fun _ h=>ok_expr_Names h) ?_;intro y1
 intro h;refine bind_some2 h ?_;clear h;intro o11 ho11 h
 refine lq (σ:=Int) (τ:=Unit) (ν:=Bool) 0 (fun s3 a5=>stOf 31 [(1,AV.ptr 0 0),(7,AV.sl 5 (List.map c_api_Node y1)),(8,iA (((y1.length:Nat):Int))),(9,iA s3)]) (fun s3 a5=>[Ob.var 57 [iA v0_c.f_Kind,AV.sl 5 (List.map c_api_Node v0_c.f_E),iA v0_c.f_At]]) (fun _ a15=>stOf 31 [(1,AV.ptr 0 0)]) (fun _ a15=>[Ob.var 57 [iA v0_c.f_Kind,AV.sl 5 (List.map c_api_Node v0_c.f_E),iA v0_c.f_At]]) (fun v=>(bA v,[])) (fun k s=>prog_claim_L0 n y1 k s) (fun s=>rfl) o11 n 0 (fun _=>0) ho11 ?_ ?_
 intro k4 s3 a5 K6 cont7 hK8 hcont9 h hr10
 replace h:prog_claim_L0 n y1 (k4+1) s3=some o11:=h
 rw [prog_claim_L0] at h
 conv=>lhs;whnf
 revert h
 refine br ?_ ?_
 refine ix ?_;intro x13
 refine br ?_ ?_
 intro h;cases sj h
 refine (hK8 _ _).trans ?_
 refine Eq.trans ?_ (Eq.symm (show _=some _ from hr10))
 conv=>lhs;whnf
 exact rq
 exact fun h=>cq (hcont9 (IntKind.i64.wrap (s3+1)) (fun _=>0) h)
 intro h;cases sj h
 exact kq (hr10 (fun _=>0))
 refine lrc ?_ ?_
 intro v e;subst e;cases sj h;rfl
 intro t a15 e;subst e
 dsimp only at h
 conv=>lhs;whnf
 revert h
 refine ca hc (fun _ h=>ok_prog_word h) ?_;intro y16
 refine br ?_ ?_
 exact rz
 refine ca hc (fun _ h=>ok_expr_Right h) ?_;intro y19
 refine br ?_ ?_
 exact rz
 exact rz
theorem ok_prog_Right_3 {n:Nat} ⦃v0_i:Int⦄ ⦃o0_Mod:Int⦄ ⦃o0_Locs:(List S_api_Var)⦄ ⦃o0_Threads:(List S_api_Thread)⦄ ⦃o0_Claims:(List S_api_Claim)⦄ ⦃r:Bool⦄:m_prog_Right_3 n v0_i o0_Mod o0_Locs o0_Threads o0_Claims=some r→CN n 94 [iA v0_i,AV.ptr 0 0] [Ob.var 26 [iA o0_Mod,AV.sl 3 (List.map c_api_Var o0_Locs),AV.sl 4 (List.map c_api_Thread o0_Threads),AV.sl 3 (List.map c_api_Claim o0_Claims)]]=some (bA r,[Ob.var 26 [iA o0_Mod,AV.sl 3 (List.map c_api_Var o0_Locs),AV.sl 4 (List.map c_api_Thread o0_Threads),AV.sl 3 (List.map c_api_Claim o0_Claims)]]):=by
 intro h;rcases n with _|n;cases h
 rw [m_prog_Right_3] at h
 refine callN_eq' Tryz.func94 (by rfl) rfl rfl (Nat.le_of_ble_eq_true rfl) ?_
 intro call hc;conv=>lhs;whnf
 revert h
 refine ix ?_;intro x1
 refine ca hc (fun _ h=>ok_prog_claim h) ?_;intro y2
 exact rz
theorem ok_prog_all_2 {n:Nat} ⦃v0_n:Int⦄ ⦃o0_Mod:Int⦄ ⦃o0_Locs:(List S_api_Var)⦄ ⦃o0_Threads:(List S_api_Thread)⦄ ⦃o0_Claims:(List S_api_Claim)⦄ ⦃r:Bool⦄:m_prog_all_2 n v0_n o0_Mod o0_Locs o0_Threads o0_Claims=some r→CN n 88 [iA v0_n,AV.func 94 [] [AV.ptr 0 0]] [Ob.var 26 [iA o0_Mod,AV.sl 3 (List.map c_api_Var o0_Locs),AV.sl 4 (List.map c_api_Thread o0_Threads),AV.sl 3 (List.map c_api_Claim o0_Claims)]]=some (bA r,[Ob.var 26 [iA o0_Mod,AV.sl 3 (List.map c_api_Var o0_Locs),AV.sl 4 (List.map c_api_Thread o0_Threads),AV.sl 3 (List.map c_api_Claim o0_Claims)]]):=by
 intro h;rcases n with _|n;cases h
 rw [m_prog_all_2] at h
 refine callN_eq' Tryz.func88 (by rfl) rfl rfl (Nat.le_of_ble_eq_true rfl) ?_
 intro call hc;conv=>lhs;whnf
 revert h
 intro h;refine bind_some2 h ?_;clear h;intro o9 ho9 h
 refine lq (σ:=Int) (τ:=Unit) (ν:=Bool) 0 (fun s1 a3=>stOf 15 [(1,AV.func 94 [] [AV.ptr 0 0]),(6,iA v0_n),(7,iA s1)]) (fun s1 a3=>[Ob.var 26 [iA o0_Mod,AV.sl 3 (List.map c_api_Var o0_Locs),AV.sl 4 (List.map c_api_Thread o0_Threads),AV.sl 3 (List.map c_api_Claim o0_Claims)]]) (fun _ a14=>stOf 15 []) (fun _ a14=>[Ob.var 26 [iA o0_Mod,AV.sl 3 (List.map c_api_Var o0_Locs),AV.sl 4 (List.map c_api_Thread o0_Threads),AV.sl 3 (List.map c_api_Claim o0_Claims)]]) (fun v=>(bA v,[Ob.var 26 [iA o0_Mod,AV.sl 3 (List.map c_api_Var o0_Locs),AV.sl 4 (List.map c_api_Thread o0_Threads),AV.sl 3 (List.map c_api_Claim o0_Claims)]])) (fun k s=>prog_all_2_L0 n v0_n o0_Mod o0_Locs o0_Threads o0_Claims k s) (fun s=>rfl) o9 n 0 (fun _=>0) ho9 ?_ ?_
 intro k2 s1 a3 K4 cont5 hK6 hcont7 h hr8
 replace h:prog_all_2_L0 n v0_n o0_Mod o0_Locs o0_Threads o0_Claims (k2+1) s1=some o9:=h
 rw [prog_all_2_L0] at h
 conv=>lhs;whnf
 revert h
 refine br ?_ ?_
 refine ca hc (fun _ h=>ok_prog_Right_3 h) ?_;intro y11
 refine br ?_ ?_
 exact fun h=>cq (hcont7 (IntKind.i64.wrap (s1+1)) (fun _=>0) h)
 intro h;cases sj h
 refine (hK6 _ _).trans ?_
 refine Eq.trans ?_ (Eq.symm (show _=some _ from hr8))
 conv=>lhs;whnf
 exact rq
 intro h;cases sj h
 exact kq (hr8 (fun _=>0))
 refine lrc ?_ ?_
 intro v e;subst e;cases sj h;rfl
 intro t a14 e;subst e
 dsimp only at h
 conv=>lhs;whnf
 revert h
 exact rz
theorem ok_prog_Right {n:Nat} ⦃v0_p:S_api_Prog⦄ ⦃r:Bool⦄:m_prog_Right n v0_p=some r→CN n 65 [AV.agg [iA v0_p.f_Mod,AV.sl 3 (List.map c_api_Var v0_p.f_Locs),AV.sl 4 (List.map c_api_Thread v0_p.f_Threads),AV.sl 3 (List.map c_api_Claim v0_p.f_Claims)]] []=some (bA r,[]):=by
 intro h;rcases n with _|n;cases h
 rw [m_prog_Right] at h
 refine callN_eq' Tryz.func65 (by rfl) rfl rfl (Nat.le_of_ble_eq_true rfl) ?_
 intro call hc;conv=>lhs;whnf
 revert h
 refine cr hc (fun _ h=>ok_prog_all h) ?_;intro y1
 refine ca hc (fun _ h=>ok_prog_number h) ?_;intro y3
 refine br ?_ ?_
 refine br ?_ ?_
 refine cr hc (fun _ h=>ok_prog_all_1 h) ?_;intro y7
 refine br ?_ ?_
 refine cr hc (fun _ h=>ok_prog_all_2 h) ?_;intro y10
 exact rz
 exact rz
 exact rz
 exact rz
def OK_prog_decimal (n:Nat):Prop:=∀ ⦃v0_n:Int⦄ ⦃r:(List UInt8)⦄,m_prog_decimal n v0_n=some r→CN n 66 [iA v0_n] []=some (sA r,[])
def IH_prog_decimal (n : Nat) : Prop := OK_prog_decimal n
theorem st_prog_decimal (n:Nat) (ih:IH_prog_decimal n):OK_prog_decimal (n+1):=by
 intro v0_n r h
 rw [m_prog_decimal] at h
 refine callN_eq' Tryz.func66 (by rfl) rfl rfl (Nat.le_of_ble_eq_true rfl) ?_
 intro call hc;conv=>lhs;whnf
 revert h
 refine br ?_ ?_
 exact rz
 refine ca hc (fun _ h=>ih h) ?_;intro y2
 intro h
 refine chk_some2 h ?_;clear h;intro hc4 h
 refine bif_pos hc4 ?_
 try simp only [ls]
 conv=>lhs;whnf
 revert h
 exact rz
theorem all_prog_decimal : ∀ n, IH_prog_decimal n
  | 0 => by unfold IH_prog_decimal OK_prog_decimal; intros; rename_i h; exact absurd h (by intro h; cases h)
  | n + 1 => have ih := all_prog_decimal n
    st_prog_decimal n ih
theorem ok_prog_decimal {n : Nat} : OK_prog_decimal n := (all_prog_decimal n)
theorem ok_prog_Show {n:Nat} ⦃v0_p:S_api_Prog⦄ ⦃r:(List UInt8)⦄:m_prog_Show n v0_p=some r→CN n 34 [AV.agg [iA v0_p.f_Mod,AV.sl 3 (List.map c_api_Var v0_p.f_Locs),AV.sl 4 (List.map c_api_Thread v0_p.f_Threads),AV.sl 3 (List.map c_api_Claim v0_p.f_Claims)]] []=some (sA r,[]):=by
 intro h;rcases n with _|n;cases h
 rw [m_prog_Show] at h
 refine callN_eq' Tryz.func34 (by rfl) rfl rfl (Nat.le_of_ble_eq_true rfl) ?_
 intro call hc;conv=>lhs;whnf
 revert h
 refine ca hc (fun _ h=>ok_prog_Right h) ?_;intro y1
 refine br ?_ ?_
 refine ca hc (fun _ h=>ok_prog_decimal h) ?_;intro y4
 intro h
 refine chk_some2 h ?_;clear h;intro hc6 h
 refine bif_pos hc6 ?_
 try simp only [ls]
 conv=>lhs;whnf
 revert h
 intro h
 refine chk_some2 h ?_;clear h;intro hc7 h
 refine bif_pos hc7 ?_
 try simp only [ls]
 conv=>lhs;whnf
 revert h
 intro h;refine bind_some2 h ?_;clear h;intro o17 ho17 h
 refine lq (σ:=((List UInt8)×Int)) (τ:=(List UInt8)) (ν:=(List UInt8)) 0 (fun (s8,s9) a11=>stOf 99 [(1,AV.ptr 0 0),(3,sA s8),(22,AV.sl 3 (List.map c_api_Var v0_p.f_Locs)),(23,iA (((v0_p.f_Locs.length:Nat):Int))),(24,iA s9)]) (fun (s8,s9) a11=>[Ob.var 26 [iA v0_p.f_Mod,AV.sl 3 (List.map c_api_Var v0_p.f_Locs),AV.sl 4 (List.map c_api_Thread v0_p.f_Threads),AV.sl 3 (List.map c_api_Claim v0_p.f_Claims)]]) (fun x28 a27=>stOf 99 [(1,AV.ptr 0 0),(3,sA x28)]) (fun x28 a27=>[Ob.var 26 [iA v0_p.f_Mod,AV.sl 3 (List.map c_api_Var v0_p.f_Locs),AV.sl 4 (List.map c_api_Thread v0_p.f_Threads),AV.sl 3 (List.map c_api_Claim v0_p.f_Claims)]]) (fun v=>(sA v,[])) (fun k s=>prog_Show_L0 n v0_p k s.1 s.2) (fun s=>rfl) o17 n (((([109,111,100,32]:List UInt8)++y4)++([59,10]:List UInt8)),0) (fun _=>0) ho17 ?_ ?_
 intro k10 ss a11 K12 cont13 hK14 hcont15 h hr16
 obtain ⟨s8,s9⟩:=ss
 replace h:prog_Show_L0 n v0_p (k10+1) s8 s9=some o17:=h
 rw [prog_Show_L0] at h
 conv=>lhs;whnf
 revert h
 refine br ?_ ?_
 refine ix ?_;intro x19
 intro h
 refine chk_some2 h ?_;clear h;intro hc20 h
 refine bif_pos hc20 ?_
 try simp only [ls]
 conv=>lhs;whnf
 revert h
 intro h
 refine chk_some2 h ?_;clear h;intro hc21 h
 refine bif_pos hc21 ?_
 try simp only [ls]
 conv=>lhs;whnf
 revert h
 refine ca hc (fun _ h=>ok_prog_decimal h) ?_;intro y22
 intro h
 refine chk_some2 h ?_;clear h;intro hc24 h
 refine bif_pos hc24 ?_
 try simp only [ls]
 conv=>lhs;whnf
 revert h
 intro h
 refine chk_some2 h ?_;clear h;intro hc25 h
 refine bif_pos hc25 ?_
 try simp only [ls]
 conv=>lhs;whnf
 revert h
 intro h
 refine chk_some2 h ?_;clear h;intro hc26 h
 refine bif_pos hc26 ?_
 try simp only [ls]
 conv=>lhs;whnf
 revert h
 exact fun h=>cq (hcont15 ((s8++((((([108,111,99,32]:List UInt8)++x19.f_Name)++([32,61,32]:List UInt8))++y22)++([59,10]:List UInt8))),IntKind.i64.wrap (s9+1)) (fun _=>0) h)
 intro h;cases sj h
 exact kq (hr16 (fun _=>0))
 refine lrc ?_ ?_
 intro v e;subst e;cases sj h;rfl
 intro x28 a27 e;subst e
 dsimp only at h
 conv=>lhs;whnf
 revert h
 intro h;refine bind_some2 h ?_;clear h;intro o38 ho38 h
 refine lq (σ:=((List UInt8)×Int)) (τ:=(List UInt8)) (ν:=(List UInt8)) 2 (fun (s29,s30) a32=>stOf 99 [(1,AV.ptr 0 0),(3,sA s29),(41,AV.sl 4 (List.map c_api_Thread v0_p.f_Threads)),(42,iA (((v0_p.f_Threads.length:Nat):Int))),(43,iA s30)]) (fun (s29,s30) a32=>[Ob.var 26 [iA v0_p.f_Mod,AV.sl 3 (List.map c_api_Var v0_p.f_Locs),AV.sl 4 (List.map c_api_Thread v0_p.f_Threads),AV.sl 3 (List.map c_api_Claim v0_p.f_Claims)]]) (fun x73 a72=>stOf 99 [(1,AV.ptr 0 0),(3,sA x73)]) (fun x73 a72=>[Ob.var 26 [iA v0_p.f_Mod,AV.sl 3 (List.map c_api_Var v0_p.f_Locs),AV.sl 4 (List.map c_api_Thread v0_p.f_Threads),AV.sl 3 (List.map c_api_Claim v0_p.f_Claims)]]) (fun v=>(sA v,[])) (fun k s=>prog_Show_L1 n v0_p k s.1 s.2) (fun s=>rfl) o38 n (x28,0) (fun _=>0) ho38 ?_ ?_
 intro k31 ss a32 K33 cont34 hK35 hcont36 h hr37
 obtain ⟨s29,s30⟩:=ss
 replace h:prog_Show_L1 n v0_p (k31+1) s29 s30=some o38:=h
 rw [prog_Show_L1] at h
 conv=>lhs;whnf
 revert h
 refine br ?_ ?_
 refine ix ?_;intro x40
 intro h
 refine chk_some2 h ?_;clear h;intro hc41 h
 refine bif_pos hc41 ?_
 try simp only [ls]
 conv=>lhs;whnf
 revert h
 intro h
 refine chk_some2 h ?_;clear h;intro hc42 h
 refine bif_pos hc42 ?_
 try simp only [ls]
 conv=>lhs;whnf
 revert h
 intro h
 refine chk_some2 h ?_;clear h;intro hc43 h
 refine bif_pos hc43 ?_
 try simp only [ls]
 conv=>lhs;whnf
 revert h
 intro h;refine bind_some2 h ?_;clear h;intro o54 ho54 h
 refine lq (σ:=((List UInt8)×(List UInt8)×Int)) (τ:=(List UInt8)) (ν:=(List UInt8)) 4 (fun (s44,s45,s46) a48=>stOf 99 [(1,AV.ptr 0 0),(3,sA s44),(7,AV.ptr 1 0),(8,sA s45),(41,AV.sl 4 (List.map c_api_Thread v0_p.f_Threads)),(42,iA (((v0_p.f_Threads.length:Nat):Int))),(43,iA s30),(54,AV.sl 1 (List.map encS x40.f_Regs)),(55,iA (((x40.f_Regs.length:Nat):Int))),(56,iA s46)]) (fun (s44,s45,s46) a48=>[Ob.var 26 [iA v0_p.f_Mod,AV.sl 3 (List.map c_api_Var v0_p.f_Locs),AV.sl 4 (List.map c_api_Thread v0_p.f_Threads),AV.sl 3 (List.map c_api_Claim v0_p.f_Claims)],Ob.var 52 [sA x40.f_Name,AV.sl 1 (List.map encS x40.f_Regs),AV.sl 9 (List.map c_api_Stmt x40.f_Body),iA x40.f_At]]) (fun x60 a59=>stOf 99 [(1,AV.ptr 0 0),(3,sA x60),(7,AV.ptr 1 0),(41,AV.sl 4 (List.map c_api_Thread v0_p.f_Threads)),(42,iA (((v0_p.f_Threads.length:Nat):Int))),(43,iA s30)]) (fun x60 a59=>[Ob.var 26 [iA v0_p.f_Mod,AV.sl 3 (List.map c_api_Var v0_p.f_Locs),AV.sl 4 (List.map c_api_Thread v0_p.f_Threads),AV.sl 3 (List.map c_api_Claim v0_p.f_Claims)],Ob.var 52 [sA x40.f_Name,AV.sl 1 (List.map encS x40.f_Regs),AV.sl 9 (List.map c_api_Stmt x40.f_Body),iA x40.f_At]]) (fun v=>(sA v,[])) (fun k s=>prog_Show_L2 n x40 k s.1 s.2.1 s.2.2) (fun s=>rfl) o54 n ((s29++((([116,104,114,101,97,100,32]:List UInt8)++x40.f_Name)++([32,123,10]:List UInt8))),([32,32,114,101,103,32]:List UInt8),0) (fun _=>0) ho54 ?_ ?_
 intro k47 ss a48 K49 cont50 hK51 hcont52 h hr53
 obtain ⟨s44,s45,s46⟩:=ss
 replace h:prog_Show_L2 n x40 (k47+1) s44 s45 s46=some o54:=h
 rw [prog_Show_L2] at h
 conv=>lhs;whnf
 revert h
 refine br ?_ ?_
 refine ix ?_;intro x56
 intro h
 refine chk_some2 h ?_;clear h;intro hc57 h
 refine bif_pos hc57 ?_
 try simp only [ls]
 conv=>lhs;whnf
 revert h
 intro h
 refine chk_some2 h ?_;clear h;intro hc58 h
 refine bif_pos hc58 ?_
 try simp only [ls]
 conv=>lhs;whnf
 revert h
 exact fun h=>cq (hcont52 ((s44++(s45++x56)),([44,32]:List UInt8),IntKind.i64.wrap (s46+1)) (fun _=>0) h)
 intro h;cases sj h
 exact kq (hr53 (fun _=>0))
 refine lrc ?_ ?_
 intro v e;subst e;cases sj h;exact hr37
 intro x60 a59 e;subst e
 dsimp only at h
 conv=>lhs;whnf
 revert h
 refine br ?_ ?_
 intro h
 refine chk_some2 h ?_;clear h;intro hc62 h
 refine bif_pos hc62 ?_
 try simp only [ls]
 conv=>lhs;whnf
 revert h
 refine ca hc (fun _ h=>ok_stmt_Show h) ?_;intro y63
 intro h
 refine chk_some2 h ?_;clear h;intro hc65 h
 refine bif_pos hc65 ?_
 try simp only [ls]
 conv=>lhs;whnf
 revert h
 intro h
 refine chk_some2 h ?_;clear h;intro hc66 h
 refine bif_pos hc66 ?_
 try simp only [ls]
 conv=>lhs;whnf
 revert h
 exact fun h=>cq (hcont36 (((x60++([59,10]:List UInt8))++(y63++([125,10]:List UInt8))),IntKind.i64.wrap (s30+1)) (fun _=>0) h)
 refine ca hc (fun _ h=>ok_stmt_Show h) ?_;intro y67
 intro h
 refine chk_some2 h ?_;clear h;intro hc69 h
 refine bif_pos hc69 ?_
 try simp only [ls]
 conv=>lhs;whnf
 revert h
 intro h
 refine chk_some2 h ?_;clear h;intro hc70 h
 refine bif_pos hc70 ?_
 try simp only [ls]
 conv=>lhs;whnf
 revert h
 exact fun h=>cq (hcont36 ((x60++(y67++([125,10]:List UInt8))),IntKind.i64.wrap (s30+1)) (fun _=>0) h)
 intro h;cases sj h
 exact kq (hr37 (fun _=>0))
 refine lrc ?_ ?_
 intro v e;subst e;cases sj h;rfl
 intro x73 a72 e;subst e
 dsimp only at h
 conv=>lhs;whnf
 revert h
 intro h;refine bind_some2 h ?_;clear h;intro o83 ho83 h
 refine lq (σ:=((List UInt8)×Int)) (τ:=(List UInt8)) (ν:=(List UInt8)) 6 (fun (s74,s75) a77=>stOf 99 [(3,sA s74),(80,AV.sl 3 (List.map c_api_Claim v0_p.f_Claims)),(81,iA (((v0_p.f_Claims.length:Nat):Int))),(82,iA s75)]) (fun (s74,s75) a77=>[Ob.var 26 [iA v0_p.f_Mod,AV.sl 3 (List.map c_api_Var v0_p.f_Locs),AV.sl 4 (List.map c_api_Thread v0_p.f_Threads),AV.sl 3 (List.map c_api_Claim v0_p.f_Claims)]]) (fun x95 a94=>stOf 99 [(3,sA x95)]) (fun x95 a94=>[Ob.var 26 [iA v0_p.f_Mod,AV.sl 3 (List.map c_api_Var v0_p.f_Locs),AV.sl 4 (List.map c_api_Thread v0_p.f_Threads),AV.sl 3 (List.map c_api_Claim v0_p.f_Claims)]]) (fun v=>(sA v,[])) (fun k s=>prog_Show_L3 n v0_p k s.1 s.2) (fun s=>rfl) o83 n (x73,0) (fun _=>0) ho83 ?_ ?_
 intro k76 ss a77 K78 cont79 hK80 hcont81 h hr82
 obtain ⟨s74,s75⟩:=ss
 replace h:prog_Show_L3 n v0_p (k76+1) s74 s75=some o83:=h
 rw [prog_Show_L3] at h
 conv=>lhs;whnf
 revert h
 refine br ?_ ?_
 refine ix ?_;intro x85
 refine ca hc (fun _ h=>ok_prog_word h) ?_;intro y86
 intro h
 refine chk_some2 h ?_;clear h;intro hc88 h
 refine bif_pos hc88 ?_
 try simp only [ls]
 conv=>lhs;whnf
 revert h
 refine ca hc (fun _ h=>ok_expr_Show h) ?_;intro y89
 intro h
 refine chk_some2 h ?_;clear h;intro hc91 h
 refine bif_pos hc91 ?_
 try simp only [ls]
 conv=>lhs;whnf
 revert h
 intro h
 refine chk_some2 h ?_;clear h;intro hc92 h
 refine bif_pos hc92 ?_
 try simp only [ls]
 conv=>lhs;whnf
 revert h
 intro h
 refine chk_some2 h ?_;clear h;intro hc93 h
 refine bif_pos hc93 ?_
 try simp only [ls]
 conv=>lhs;whnf
 revert h
 exact fun h=>cq (hcont81 ((s74++(((y86++([32]:List UInt8))++y89)++([59,10]:List UInt8))),IntKind.i64.wrap (s75+1)) (fun _=>0) h)
 intro h;cases sj h
 exact kq (hr82 (fun _=>0))
 refine lrc ?_ ?_
 intro v e;subst e;cases sj h;rfl
 intro x95 a94 e;subst e
 dsimp only at h
 conv=>lhs;whnf
 revert h
 exact rz
 exact rz
end Go.Proofs.YtgelgahilfojdaaGreat
end
section
namespace Go.Proofs.YtgelgahilfojdaaGreat
set_option linter.unusedVariables false
set_option linter.unusedSimpArgs false
set_option maxRecDepth 100000
set_option maxHeartbeats 4000000
theorem ok_gen_kinds {n:Nat} ⦃r:((List (List UInt8))×(List (List UInt8))×Bool×(List (List UInt8))×(List (List UInt8))×Bool×(List (List UInt8))×(List (List UInt8))×Bool×(List (List UInt8))×(List (List UInt8))×Bool)⦄:m_gen_kinds n=some r→CN n 16 [] []=some (AV.sl 4 [[AV.sl 1 (List.map encS r.1),AV.sl 1 (List.map encS r.2.1),AV.nilf,bA r.2.2.1],[AV.sl 1 (List.map encS r.2.2.2.1),AV.sl 1 (List.map encS r.2.2.2.2.1),AV.func 44 [] [],bA r.2.2.2.2.2.1],[AV.sl 1 (List.map encS r.2.2.2.2.2.2.1),AV.sl 1 (List.map encS r.2.2.2.2.2.2.2.1),AV.func 47 [] [],bA r.2.2.2.2.2.2.2.2.1],[AV.sl 1 (List.map encS r.2.2.2.2.2.2.2.2.2.1),AV.sl 1 (List.map encS r.2.2.2.2.2.2.2.2.2.2.1),AV.func 48 [] [],bA r.2.2.2.2.2.2.2.2.2.2.2]],[]):=by
 intro h;rcases n with _|n;cases h
 rw [m_gen_kinds] at h
 refine callN_eq' Tryz.func16 (by rfl) rfl rfl (Nat.le_of_ble_eq_true rfl) ?_
 intro call hc;conv=>lhs;whnf
 revert h
 exact rz
theorem ok_gen_num {n:Nat} ⦃v0_n:Int⦄ ⦃r:(List S_api_Node)⦄:m_gen_num n v0_n=some r→CN n 19 [iA v0_n] []=some (AV.sl 5 (List.map c_api_Node r),[]):=by
 intro h;rcases n with _|n;cases h
 rw [m_gen_num] at h
 refine callN_eq' Tryz.func19 (by rfl) rfl rfl (Nat.le_of_ble_eq_true rfl) ?_
 intro call hc;conv=>lhs;whnf
 revert h
 exact rz
theorem ok_gen_reg {n:Nat} ⦃v0_name:(List UInt8)⦄ ⦃r:(List S_api_Node)⦄:m_gen_reg n v0_name=some r→CN n 45 [sA v0_name] []=some (AV.sl 5 (List.map c_api_Node r),[]):=by
 intro h;rcases n with _|n;cases h
 rw [m_gen_reg] at h
 refine callN_eq' Tryz.func45 (by rfl) rfl rfl (Nat.le_of_ble_eq_true rfl) ?_
 intro call hc;conv=>lhs;whnf
 revert h
 exact rz
theorem ok_gen_two {n:Nat} ⦃v0_op:Int⦄ ⦃v1_a:(List S_api_Node)⦄ ⦃v2_b:(List S_api_Node)⦄ ⦃r:(List S_api_Node)⦄:m_gen_two n v0_op v1_a v2_b=some r→CN n 18 [iA v0_op,AV.sl 5 (List.map c_api_Node v1_a),AV.sl 5 (List.map c_api_Node v2_b)] []=some (AV.sl 5 (List.map c_api_Node r),[]):=by
 intro h;rcases n with _|n;cases h
 rw [m_gen_two] at h
 refine callN_eq' Tryz.func18 (by rfl) rfl rfl (Nat.le_of_ble_eq_true rfl) ?_
 intro call hc;conv=>lhs;whnf
 revert h
 refine ar (ap c_api_Node ([[iA v0_op,iA (0),sA (([]:List UInt8)),sA (([]:List UInt8)),iA (0)]]) ([(⟨v0_op,0,([]:List UInt8),([]:List UInt8),0⟩:S_api_Node)]:List S_api_Node) (List.map c_api_Node v1_a) v1_a) ?_
 refine ar (ap c_api_Node (List.map c_api_Node (([(⟨v0_op,0,([]:List UInt8),([]:List UInt8),0⟩:S_api_Node)]:List S_api_Node)++v1_a)) (([(⟨v0_op,0,([]:List UInt8),([]:List UInt8),0⟩:S_api_Node)]:List S_api_Node)++v1_a) (List.map c_api_Node v2_b) v2_b) ?_
 intro h;cases sj h
 try simp only [ls]
 exact fq (y:=some (AV.sl 5 (List.take (List.length (((([(⟨v0_op,0,([]:List UInt8),([]:List UInt8),0⟩:S_api_Node)]:List S_api_Node)++v1_a)++v2_b))) (List.map c_api_Node ((([(⟨v0_op,0,([]:List UInt8),([]:List UInt8),0⟩:S_api_Node)]:List S_api_Node)++v1_a)++v2_b))),[]))
theorem ok_gen_alone {n:Nat} ⦃v0_r:(List UInt8)⦄ ⦃v1_then:(List S_api_Stmt)⦄ ⦃r:(List S_api_Stmt)⦄:m_gen_alone n v0_r v1_then=some r→CN n 46 [sA v0_r,AV.sl 9 (List.map c_api_Stmt v1_then)] []=some (AV.sl 9 (List.map c_api_Stmt r),[]):=by
 intro h;rcases n with _|n;cases h
 rw [m_gen_alone] at h
 refine callN_eq' Tryz.func46 (by rfl) rfl rfl (Nat.le_of_ble_eq_true rfl) ?_
 intro call hc;conv=>lhs;whnf
 revert h
 refine ca hc (fun _ h=>ok_gen_num h) ?_;intro y1
 refine ca hc (fun _ h=>ok_gen_reg h) ?_;intro y3
 refine ca hc (fun _ h=>ok_gen_num h) ?_;intro y5
 refine ca hc (fun _ h=>ok_gen_two h) ?_;intro y7
 refine ca hc (fun _ h=>ok_gen_num h) ?_;intro y9
 refine ar (ap c_api_Stmt ([[iA (2),sA (([99,115]:List UInt8)),sA (([]:List UInt8)),AV.sl 5 (List.map c_api_Node y1),AV.sl 5 [],bA false,iA (0),iA (0),iA (0)],[iA (3),sA v0_r,sA (([99]:List UInt8)),AV.sl 5 [],AV.sl 5 [],bA false,iA (0),iA (0),iA (0)],[iA (4),sA (([]:List UInt8)),sA (([99]:List UInt8)),AV.sl 5 (List.map c_api_Node y7),AV.sl 5 [],bA false,iA (0),iA (0),iA (0)],[iA (2),sA (([99,115]:List UInt8)),sA (([]:List UInt8)),AV.sl 5 (List.map c_api_Node y9),AV.sl 5 [],bA false,iA (0),iA (0),iA (0)],[iA (8),sA (([]:List UInt8)),sA (([]:List UInt8)),AV.sl 5 [],AV.sl 5 [],bA false,iA (0),iA (0),iA (0)]]) ([(⟨2,([99,115]:List UInt8),([]:List UInt8),y1,([]:List S_api_Node),false,0,0,0⟩:S_api_Stmt),(⟨3,v0_r,([99]:List UInt8),([]:List S_api_Node),([]:List S_api_Node),false,0,0,0⟩:S_api_Stmt),(⟨4,([]:List UInt8),([99]:List UInt8),y7,([]:List S_api_Node),false,0,0,0⟩:S_api_Stmt),(⟨2,([99,115]:List UInt8),([]:List UInt8),y9,([]:List S_api_Node),false,0,0,0⟩:S_api_Stmt),(⟨8,([]:List UInt8),([]:List UInt8),([]:List S_api_Node),([]:List S_api_Node),false,0,0,0⟩:S_api_Stmt)]:List S_api_Stmt) (List.map c_api_Stmt v1_then) v1_then) ?_
 intro h;cases sj h
 try simp only [ls]
 exact fq (y:=some (AV.sl 9 (List.take (List.length ((([(⟨2,([99,115]:List UInt8),([]:List UInt8),y1,([]:List S_api_Node),false,0,0,0⟩:S_api_Stmt),(⟨3,v0_r,([99]:List UInt8),([]:List S_api_Node),([]:List S_api_Node),false,0,0,0⟩:S_api_Stmt),(⟨4,([]:List UInt8),([99]:List UInt8),y7,([]:List S_api_Node),false,0,0,0⟩:S_api_Stmt),(⟨2,([99,115]:List UInt8),([]:List UInt8),y9,([]:List S_api_Node),false,0,0,0⟩:S_api_Stmt),(⟨8,([]:List UInt8),([]:List UInt8),([]:List S_api_Node),([]:List S_api_Node),false,0,0,0⟩:S_api_Stmt)]:List S_api_Stmt)++v1_then))) (List.map c_api_Stmt (([(⟨2,([99,115]:List UInt8),([]:List UInt8),y1,([]:List S_api_Node),false,0,0,0⟩:S_api_Stmt),(⟨3,v0_r,([99]:List UInt8),([]:List S_api_Node),([]:List S_api_Node),false,0,0,0⟩:S_api_Stmt),(⟨4,([]:List UInt8),([99]:List UInt8),y7,([]:List S_api_Node),false,0,0,0⟩:S_api_Stmt),(⟨2,([99,115]:List UInt8),([]:List UInt8),y9,([]:List S_api_Node),false,0,0,0⟩:S_api_Stmt),(⟨8,([]:List UInt8),([]:List UInt8),([]:List S_api_Node),([]:List S_api_Node),false,0,0,0⟩:S_api_Stmt)]:List S_api_Stmt)++v1_then))),[]))
theorem ok_gen_kinds_1 {n:Nat} ⦃v0_:Int⦄ ⦃r:(List S_api_Stmt)⦄:m_gen_kinds_1 n v0_=some r→CN n 44 [iA v0_] []=some (AV.sl 9 (List.map c_api_Stmt r),[]):=by
 intro h;rcases n with _|n;cases h
 rw [m_gen_kinds_1] at h
 refine callN_eq' Tryz.func44 (by rfl) rfl rfl (Nat.le_of_ble_eq_true rfl) ?_
 intro call hc;conv=>lhs;whnf
 revert h
 refine ca hc (fun _ h=>ok_gen_num h) ?_;intro y1
 refine ca hc (fun _ h=>ok_gen_reg h) ?_;intro y3
 refine ca hc (fun _ h=>ok_gen_num h) ?_;intro y5
 refine ca hc (fun _ h=>ok_gen_two h) ?_;intro y7
 refine ca hc (fun _ h=>ok_gen_num h) ?_;intro y9
 refine ca hc (fun _ h=>ok_gen_num h) ?_;intro y11
 refine cr hc (fun y13 h=>(show CN n 46 [sA (([97]:List UInt8)),AV.sl 9 [[iA (4),sA (([]:List UInt8)),sA (([108]:List UInt8)),AV.sl 5 (List.map c_api_Node y11),AV.sl 5 [],bA false,iA (0),iA (0),iA (0)]]] []=some (AV.sl 9 (List.map c_api_Stmt y13),[]) from ok_gen_alone (r:=y13) h)) ?_;intro y13
 refine ar (ap c_api_Stmt ([[iA (2),sA (([97]:List UInt8)),sA (([]:List UInt8)),AV.sl 5 (List.map c_api_Node y1),AV.sl 5 [],bA false,iA (0),iA (0),iA (0)],[iA (11),sA (([]:List UInt8)),sA (([]:List UInt8)),AV.sl 5 (List.map c_api_Node y7),AV.sl 5 [],bA false,iA (1),iA (0),iA (0)],[iA (7),sA (([97]:List UInt8)),sA (([108]:List UInt8)),AV.sl 5 (List.map c_api_Node y9),AV.sl 5 [],bA false,iA (0),iA (0),iA (0)]]) ([(⟨2,([97]:List UInt8),([]:List UInt8),y1,([]:List S_api_Node),false,0,0,0⟩:S_api_Stmt),(⟨11,([]:List UInt8),([]:List UInt8),y7,([]:List S_api_Node),false,1,0,0⟩:S_api_Stmt),(⟨7,([97]:List UInt8),([108]:List UInt8),y9,([]:List S_api_Node),false,0,0,0⟩:S_api_Stmt)]:List S_api_Stmt) (List.map c_api_Stmt y13) y13) ?_
 intro h;cases sj h
 try simp only [ls]
 exact fq (y:=some (AV.sl 9 (List.take (List.length ((([(⟨2,([97]:List UInt8),([]:List UInt8),y1,([]:List S_api_Node),false,0,0,0⟩:S_api_Stmt),(⟨11,([]:List UInt8),([]:List UInt8),y7,([]:List S_api_Node),false,1,0,0⟩:S_api_Stmt),(⟨7,([97]:List UInt8),([108]:List UInt8),y9,([]:List S_api_Node),false,0,0,0⟩:S_api_Stmt)]:List S_api_Stmt)++y13))) (List.map c_api_Stmt (([(⟨2,([97]:List UInt8),([]:List UInt8),y1,([]:List S_api_Node),false,0,0,0⟩:S_api_Stmt),(⟨11,([]:List UInt8),([]:List UInt8),y7,([]:List S_api_Node),false,1,0,0⟩:S_api_Stmt),(⟨7,([97]:List UInt8),([108]:List UInt8),y9,([]:List S_api_Node),false,0,0,0⟩:S_api_Stmt)]:List S_api_Stmt)++y13))),[]))
theorem ok_gen_kinds_2 {n:Nat} ⦃v0_:Int⦄ ⦃r:(List S_api_Stmt)⦄:m_gen_kinds_2 n v0_=some r→CN n 47 [iA v0_] []=some (AV.sl 9 (List.map c_api_Stmt r),[]):=by
 intro h;rcases n with _|n;cases h
 rw [m_gen_kinds_2] at h
 refine callN_eq' Tryz.func47 (by rfl) rfl rfl (Nat.le_of_ble_eq_true rfl) ?_
 intro call hc;conv=>lhs;whnf
 revert h
 refine ca hc (fun _ h=>ok_gen_num h) ?_;intro y1
 refine ca hc (fun _ h=>ok_gen_reg h) ?_;intro y3
 refine ca hc (fun _ h=>ok_gen_reg h) ?_;intro y5
 refine ca hc (fun _ h=>ok_gen_num h) ?_;intro y7
 refine ca hc (fun _ h=>ok_gen_two h) ?_;intro y9
 refine cr hc (fun y11 h=>(show CN n 46 [sA (([98]:List UInt8)),AV.sl 9 [[iA (4),sA (([]:List UInt8)),sA (([110,111,119]:List UInt8)),AV.sl 5 (List.map c_api_Node y9),AV.sl 5 [],bA false,iA (0),iA (0),iA (0)]]] []=some (AV.sl 9 (List.map c_api_Stmt y11),[]) from ok_gen_alone (r:=y11) h)) ?_;intro y11
 refine ar (ap c_api_Stmt ([[iA (6),sA (([97]:List UInt8)),sA (([110,101,120,116]:List UInt8)),AV.sl 5 (List.map c_api_Node y1),AV.sl 5 [],bA false,iA (0),iA (0),iA (0)],[iA (9),sA (([]:List UInt8)),sA (([110,111,119]:List UInt8)),AV.sl 5 (List.map c_api_Node y3),AV.sl 5 [],bA false,iA (0),iA (0),iA (0)]]) ([(⟨6,([97]:List UInt8),([110,101,120,116]:List UInt8),y1,([]:List S_api_Node),false,0,0,0⟩:S_api_Stmt),(⟨9,([]:List UInt8),([110,111,119]:List UInt8),y3,([]:List S_api_Node),false,0,0,0⟩:S_api_Stmt)]:List S_api_Stmt) (List.map c_api_Stmt y11) y11) ?_
 intro h;cases sj h
 try simp only [ls]
 exact fq (y:=some (AV.sl 9 (List.take (List.length ((([(⟨6,([97]:List UInt8),([110,101,120,116]:List UInt8),y1,([]:List S_api_Node),false,0,0,0⟩:S_api_Stmt),(⟨9,([]:List UInt8),([110,111,119]:List UInt8),y3,([]:List S_api_Node),false,0,0,0⟩:S_api_Stmt)]:List S_api_Stmt)++y11))) (List.map c_api_Stmt (([(⟨6,([97]:List UInt8),([110,101,120,116]:List UInt8),y1,([]:List S_api_Node),false,0,0,0⟩:S_api_Stmt),(⟨9,([]:List UInt8),([110,111,119]:List UInt8),y3,([]:List S_api_Node),false,0,0,0⟩:S_api_Stmt)]:List S_api_Stmt)++y11))),[]))
theorem ok_gen_kinds_3 {n:Nat} ⦃v0_n:Int⦄ ⦃r:(List S_api_Stmt)⦄:m_gen_kinds_3 n v0_n=some r→CN n 48 [iA v0_n] []=some (AV.sl 9 (List.map c_api_Stmt r),[]):=by
 intro h;rcases n with _|n;cases h
 rw [m_gen_kinds_3] at h
 refine callN_eq' Tryz.func48 (by rfl) rfl rfl (Nat.le_of_ble_eq_true rfl) ?_
 intro call hc;conv=>lhs;whnf
 revert h
 refine ca hc (fun _ h=>ok_gen_num h) ?_;intro y1
 refine ca hc (fun _ h=>ok_gen_num h) ?_;intro y3
 exact rz
theorem ok_gen_loc {n:Nat} ⦃v0_name:(List UInt8)⦄ ⦃r:(List S_api_Node)⦄:m_gen_loc n v0_name=some r→CN n 20 [sA v0_name] []=some (AV.sl 5 (List.map c_api_Node r),[]):=by
 intro h;rcases n with _|n;cases h
 rw [m_gen_loc] at h
 refine callN_eq' Tryz.func20 (by rfl) rfl rfl (Nat.le_of_ble_eq_true rfl) ?_
 intro call hc;conv=>lhs;whnf
 revert h
 exact rz
theorem ok_gen_of {n:Nat} ⦃v0_thread:(List UInt8)⦄ ⦃v1_name:(List UInt8)⦄ ⦃r:(List S_api_Node)⦄:m_gen_of n v0_thread v1_name=some r→CN n 17 [sA v0_thread,sA v1_name] []=some (AV.sl 5 (List.map c_api_Node r),[]):=by
 intro h;rcases n with _|n;cases h
 rw [m_gen_of] at h
 refine callN_eq' Tryz.func17 (by rfl) rfl rfl (Nat.le_of_ble_eq_true rfl) ?_
 intro call hc;conv=>lhs;whnf
 revert h
 exact rz
theorem ok_gen_Make {n:Nat} ⦃v0_which:Int⦄ ⦃v1_n:Int⦄ ⦃v2_mod:Int⦄ ⦃r:(S_api_Prog×Int)⦄:m_gen_Make n v0_which v1_n v2_mod=some r→CN n 5 [iA v0_which,iA v1_n,iA v2_mod] []=some (AV.tup [AV.agg [iA r.1.f_Mod,AV.sl 3 (List.map c_api_Var r.1.f_Locs),AV.sl 4 (List.map c_api_Thread r.1.f_Threads),AV.sl 3 (List.map c_api_Claim r.1.f_Claims)],iA r.2],[]):=by
 intro h;rcases n with _|n;cases h
 rw [m_gen_Make] at h
 refine callN_eq' Tryz.func5 (by rfl) rfl rfl (Nat.le_of_ble_eq_true rfl) ?_
 intro call hc;conv=>lhs;whnf
 revert h
 refine ca hc (fun _ h=>ok_gen_kinds h) ?_;intro y1
 refine br ?_ ?_
 exact rz
 intro h
 have hl269:((List.length ([[AV.sl 1 (List.map encS y1.1),AV.sl 1 (List.map encS y1.2.1),AV.nilf,bA y1.2.2.1],[AV.sl 1 (List.map encS y1.2.2.2.1),AV.sl 1 (List.map encS y1.2.2.2.2.1),AV.func 44 [] [],bA y1.2.2.2.2.2.1],[AV.sl 1 (List.map encS y1.2.2.2.2.2.2.1),AV.sl 1 (List.map encS y1.2.2.2.2.2.2.2.1),AV.func 47 [] [],bA y1.2.2.2.2.2.2.2.2.1],[AV.sl 1 (List.map encS y1.2.2.2.2.2.2.2.2.2.1),AV.sl 1 (List.map encS y1.2.2.2.2.2.2.2.2.2.2.1),AV.func 48 [] [],bA y1.2.2.2.2.2.2.2.2.2.2.2]]:List (List AV)):Nat):Int)=4:=rfl
 try simp only [hl269]
 conv=>lhs;whnf
 revert h
 refine br ?_ ?_
 exact rz
 refine br ?_ ?_
 exact rz
 refine br ?_ ?_
 exact rz
 refine br ?_ ?_
 exact rz
 refine br ?_ ?_
 exact rz
 refine il (fun hi9=>?_) ?_
 intro h
 refine bif_pos (by rw [hi9];rfl) ?_
 simp only [(show nth? ([[AV.sl 1 (List.map encS y1.1),AV.sl 1 (List.map encS y1.2.1),AV.nilf,bA y1.2.2.1],[AV.sl 1 (List.map encS y1.2.2.2.1),AV.sl 1 (List.map encS y1.2.2.2.2.1),AV.func 44 [] [],bA y1.2.2.2.2.2.1],[AV.sl 1 (List.map encS y1.2.2.2.2.2.2.1),AV.sl 1 (List.map encS y1.2.2.2.2.2.2.2.1),AV.func 47 [] [],bA y1.2.2.2.2.2.2.2.2.1],[AV.sl 1 (List.map encS y1.2.2.2.2.2.2.2.2.2.1),AV.sl 1 (List.map encS y1.2.2.2.2.2.2.2.2.2.2.1),AV.func 48 [] [],bA y1.2.2.2.2.2.2.2.2.2.2.2]]:List (List AV)) v0_which.toNat=some [AV.sl 1 (List.map encS y1.1),AV.sl 1 (List.map encS y1.2.1),AV.nilf,bA y1.2.2.1] from by rw [hi9];rfl),ls]
 conv=>lhs;whnf
 revert h
 intro h;refine bind_some2 h ?_;clear h;intro o19 ho19 h
 refine lq (σ:=(Int×(List S_api_Var))) (τ:=(List S_api_Var)) (ν:=(S_api_Prog×Int)) 0 (fun (s10,s11) a13=>stOf 119 [(1,iA v1_n),(6,AV.ptr 0 0),(9,AV.ptr 1 0),(10,AV.ptr 2 0),(51,AV.sl 1 (List.map encS y1.1)),(52,iA (((y1.1.length:Nat):Int))),(53,iA s10)]) (fun (s10,s11) a13=>[Ob.var 26 [iA (0),AV.row 3 (List.length (([]:List S_api_Var))),AV.row 4 (List.length (([]:List S_api_Thread))),AV.row 5 (List.length (([]:List S_api_Claim)))],Ob.var 46 [AV.sl 1 (List.map encS y1.1),AV.sl 1 (List.map encS y1.2.1),AV.nilf,bA y1.2.2.1],Ob.var 26 [iA v2_mod,AV.row 6 (List.length s11),AV.row 7 (List.length (([]:List S_api_Thread))),AV.row 8 (List.length (([]:List S_api_Claim)))],Ob.row 48 3 ([]),Ob.row 52 4 ([]),Ob.row 57 3 ([]),Ob.row 48 3 (List.map c_api_Var s11),Ob.row 52 4 ([]),Ob.row 57 3 ([])]) (fun x25 a24=>stOf 119 [(1,iA v1_n),(6,AV.ptr 0 0),(9,AV.ptr 1 0),(10,AV.ptr 2 0)]) (fun x25 a24=>[Ob.var 26 [iA (0),AV.row 3 (List.length (([]:List S_api_Var))),AV.row 4 (List.length (([]:List S_api_Thread))),AV.row 5 (List.length (([]:List S_api_Claim)))],Ob.var 46 [AV.sl 1 (List.map encS y1.1),AV.sl 1 (List.map encS y1.2.1),AV.nilf,bA y1.2.2.1],Ob.var 26 [iA v2_mod,AV.row 6 (List.length x25),AV.row 7 (List.length (([]:List S_api_Thread))),AV.row 8 (List.length (([]:List S_api_Claim)))],Ob.row 48 3 ([]),Ob.row 52 4 ([]),Ob.row 57 3 ([]),Ob.row 48 3 (List.map c_api_Var x25),Ob.row 52 4 ([]),Ob.row 57 3 ([])]) (fun v=>(AV.tup [AV.agg [iA v.1.f_Mod,AV.sl 3 (List.map c_api_Var v.1.f_Locs),AV.sl 4 (List.map c_api_Thread v.1.f_Threads),AV.sl 3 (List.map c_api_Claim v.1.f_Claims)],iA v.2],[])) (fun k s=>gen_Make_L0 n y1 k s.1 s.2) (fun s=>rfl) o19 n (0,([]:List S_api_Var)) (fun _=>0) ho19 ?_ ?_
 intro k12 ss a13 K14 cont15 hK16 hcont17 h hr18
 obtain ⟨s10,s11⟩:=ss
 replace h:gen_Make_L0 n y1 (k12+1) s10 s11=some o19:=h
 rw [gen_Make_L0] at h
 conv=>lhs;whnf
 revert h
 refine br ?_ ?_
 refine ix ?_;intro x21
 refine ar (ap c_api_Var (List.map c_api_Var s11) s11 ([[sA x21,iA (0),iA (0)]]) ([(⟨x21,0,0⟩:S_api_Var)]:List S_api_Var)) ?_
 exact fun h=>cq (hcont17 (IntKind.i64.wrap (s10+1),(s11++([(⟨x21,0,0⟩:S_api_Var)]:List S_api_Var))) (fun _=>0) h)
 intro h;cases sj h
 exact kq (hr18 (fun _=>0))
 refine lrc ?_ ?_
 intro v e;subst e;cases sj h;rfl
 intro x25 a24 e;subst e
 dsimp only at h
 conv=>lhs;whnf
 revert h
 intro h;refine bind_some2 h ?_;clear h;intro o33 ho33 h
 refine lq (σ:=Unit) (τ:=Unit) (ν:=(S_api_Prog×Int)) 2 (fun _ a27=>stOf 119 [(1,iA v1_n),(6,AV.ptr 0 0),(9,AV.ptr 1 0),(10,AV.ptr 2 0),(13,AV.sl 5 []),(65,iA v1_n),(66,iA (0))]) (fun _ a27=>[Ob.var 26 [iA (0),AV.row 3 (List.length (([]:List S_api_Var))),AV.row 4 (List.length (([]:List S_api_Thread))),AV.row 5 (List.length (([]:List S_api_Claim)))],Ob.var 46 [AV.sl 1 (List.map encS y1.1),AV.sl 1 (List.map encS y1.2.1),AV.nilf,bA y1.2.2.1],Ob.var 26 [iA v2_mod,AV.row 6 (List.length x25),AV.row 7 (List.length (([]:List S_api_Thread))),AV.row 8 (List.length (([]:List S_api_Claim)))],Ob.row 48 3 ([]),Ob.row 52 4 ([]),Ob.row 57 3 ([]),Ob.row 48 3 (List.map c_api_Var x25),Ob.row 52 4 ([]),Ob.row 57 3 ([])]) (fun _ a36=>stOf 119 [(1,iA v1_n),(6,AV.ptr 0 0),(9,AV.ptr 1 0),(10,AV.ptr 2 0),(13,AV.sl 5 [])]) (fun _ a36=>[Ob.var 26 [iA (0),AV.row 3 (List.length (([]:List S_api_Var))),AV.row 4 (List.length (([]:List S_api_Thread))),AV.row 5 (List.length (([]:List S_api_Claim)))],Ob.var 46 [AV.sl 1 (List.map encS y1.1),AV.sl 1 (List.map encS y1.2.1),AV.nilf,bA y1.2.2.1],Ob.var 26 [iA v2_mod,AV.row 6 (List.length x25),AV.row 7 (List.length (([]:List S_api_Thread))),AV.row 8 (List.length (([]:List S_api_Claim)))],Ob.row 48 3 ([]),Ob.row 52 4 ([]),Ob.row 57 3 ([]),Ob.row 48 3 (List.map c_api_Var x25),Ob.row 52 4 ([]),Ob.row 57 3 ([])]) (fun v=>(AV.tup [AV.agg [iA v.1.f_Mod,AV.sl 3 (List.map c_api_Var v.1.f_Locs),AV.sl 4 (List.map c_api_Thread v.1.f_Threads),AV.sl 3 (List.map c_api_Claim v.1.f_Claims)],iA v.2],[])) (fun k s=>gen_Make_L1 n v1_n k) (fun s=>rfl) o33 n () (fun _=>0) ho33 ?_ ?_
 intro k26 ss a27 K28 cont29 hK30 hcont31 h hr32
 replace h:gen_Make_L1 n v1_n (k26+1)=some o33:=h
 rw [gen_Make_L1] at h
 conv=>lhs;whnf
 revert h
 refine bf ?_
 intro h;cases sj h
 exact kq (hr32 (fun _=>0))
 refine lrc ?_ ?_
 intro v e;subst e;cases sj h;rfl
 intro t a36 e;subst e
 dsimp only at h
 conv=>lhs;whnf
 revert h
 refine br ?_ ?_
 refine ca hc (fun _ h=>ok_gen_num h) ?_;intro y38
 refine cr hc (fun y40 h=>(show CN n 18 [iA (12),AV.sl 5 [],AV.sl 5 (List.map c_api_Node y38)] []=some (AV.sl 5 (List.map c_api_Node y40),[]) from ok_gen_two (r:=y40) h)) ?_;intro y40
 refine ao (ap c_api_Claim ([]) ([]:List S_api_Claim) ([[iA (3),AV.sl 5 (List.map c_api_Node y40),iA (0)]]) ([(⟨3,y40,0⟩:S_api_Claim)]:List S_api_Claim)) ?_
 refine ca hc (fun _ h=>ok_gen_loc h) ?_;intro y44
 refine ca hc (fun _ h=>ok_gen_num h) ?_;intro y46
 refine ca hc (fun _ h=>ok_gen_two h) ?_;intro y48
 refine ar (ap c_api_Claim (List.map c_api_Claim (([]:List S_api_Claim)++([(⟨3,y40,0⟩:S_api_Claim)]:List S_api_Claim))) (([]:List S_api_Claim)++([(⟨3,y40,0⟩:S_api_Claim)]:List S_api_Claim)) ([[iA (1),AV.sl 5 (List.map c_api_Node y48),iA (0)]]) ([(⟨1,y48,0⟩:S_api_Claim)]:List S_api_Claim)) ?_
 intro h;cases sj h
 try simp only [ls]
 exact fq (y:=some (AV.tup [AV.agg [iA v2_mod,AV.sl 3 (List.take (List.length x25) (List.map c_api_Var x25)),AV.sl 4 (List.take (List.length (([]:List S_api_Thread))) ([])),AV.sl 3 (List.take (List.length (((([]:List S_api_Claim)++([(⟨3,y40,0⟩:S_api_Claim)]:List S_api_Claim))++([(⟨1,y48,0⟩:S_api_Claim)]:List S_api_Claim)))) (List.map c_api_Claim ((([]:List S_api_Claim)++([(⟨3,y40,0⟩:S_api_Claim)]:List S_api_Claim))++([(⟨1,y48,0⟩:S_api_Claim)]:List S_api_Claim))))],iA (0)],[]))
 refine ca hc (fun _ h=>ok_gen_loc h) ?_;intro y52
 refine ca hc (fun _ h=>ok_gen_num h) ?_;intro y54
 refine ca hc (fun _ h=>ok_gen_two h) ?_;intro y56
 refine ao (ap c_api_Claim ([]) ([]:List S_api_Claim) ([[iA (1),AV.sl 5 (List.map c_api_Node y56),iA (0)]]) ([(⟨1,y56,0⟩:S_api_Claim)]:List S_api_Claim)) ?_
 intro h;cases sj h
 try simp only [ls]
 exact fq (y:=some (AV.tup [AV.agg [iA v2_mod,AV.sl 3 (List.take (List.length x25) (List.map c_api_Var x25)),AV.sl 4 (List.take (List.length (([]:List S_api_Thread))) ([])),AV.sl 3 (List.take (List.length ((([]:List S_api_Claim)++([(⟨1,y56,0⟩:S_api_Claim)]:List S_api_Claim)))) (List.map c_api_Claim (([]:List S_api_Claim)++([(⟨1,y56,0⟩:S_api_Claim)]:List S_api_Claim))))],iA (0)],[]))
 refine il (fun hi62=>?_) ?_
 intro h
 refine bif_pos (by rw [hi62];rfl) ?_
 simp only [(show nth? ([[AV.sl 1 (List.map encS y1.1),AV.sl 1 (List.map encS y1.2.1),AV.nilf,bA y1.2.2.1],[AV.sl 1 (List.map encS y1.2.2.2.1),AV.sl 1 (List.map encS y1.2.2.2.2.1),AV.func 44 [] [],bA y1.2.2.2.2.2.1],[AV.sl 1 (List.map encS y1.2.2.2.2.2.2.1),AV.sl 1 (List.map encS y1.2.2.2.2.2.2.2.1),AV.func 47 [] [],bA y1.2.2.2.2.2.2.2.2.1],[AV.sl 1 (List.map encS y1.2.2.2.2.2.2.2.2.2.1),AV.sl 1 (List.map encS y1.2.2.2.2.2.2.2.2.2.2.1),AV.func 48 [] [],bA y1.2.2.2.2.2.2.2.2.2.2.2]]:List (List AV)) v0_which.toNat=some [AV.sl 1 (List.map encS y1.2.2.2.1),AV.sl 1 (List.map encS y1.2.2.2.2.1),AV.func 44 [] [],bA y1.2.2.2.2.2.1] from by rw [hi62];rfl),ls]
 conv=>lhs;whnf
 revert h
 intro h;refine bind_some2 h ?_;clear h;intro o72 ho72 h
 refine lq (σ:=(Int×(List S_api_Var))) (τ:=(List S_api_Var)) (ν:=(S_api_Prog×Int)) 0 (fun (s63,s64) a66=>stOf 119 [(1,iA v1_n),(6,AV.ptr 0 0),(9,AV.ptr 1 0),(10,AV.ptr 2 0),(51,AV.sl 1 (List.map encS y1.2.2.2.1)),(52,iA (((y1.2.2.2.1.length:Nat):Int))),(53,iA s63)]) (fun (s63,s64) a66=>[Ob.var 26 [iA (0),AV.row 3 (List.length (([]:List S_api_Var))),AV.row 4 (List.length (([]:List S_api_Thread))),AV.row 5 (List.length (([]:List S_api_Claim)))],Ob.var 46 [AV.sl 1 (List.map encS y1.2.2.2.1),AV.sl 1 (List.map encS y1.2.2.2.2.1),AV.func 44 [] [],bA y1.2.2.2.2.2.1],Ob.var 26 [iA v2_mod,AV.row 6 (List.length s64),AV.row 7 (List.length (([]:List S_api_Thread))),AV.row 8 (List.length (([]:List S_api_Claim)))],Ob.row 48 3 ([]),Ob.row 52 4 ([]),Ob.row 57 3 ([]),Ob.row 48 3 (List.map c_api_Var s64),Ob.row 52 4 ([]),Ob.row 57 3 ([])]) (fun x78 a77=>stOf 119 [(1,iA v1_n),(6,AV.ptr 0 0),(9,AV.ptr 1 0),(10,AV.ptr 2 0)]) (fun x78 a77=>[Ob.var 26 [iA (0),AV.row 3 (List.length (([]:List S_api_Var))),AV.row 4 (List.length (([]:List S_api_Thread))),AV.row 5 (List.length (([]:List S_api_Claim)))],Ob.var 46 [AV.sl 1 (List.map encS y1.2.2.2.1),AV.sl 1 (List.map encS y1.2.2.2.2.1),AV.func 44 [] [],bA y1.2.2.2.2.2.1],Ob.var 26 [iA v2_mod,AV.row 6 (List.length x78),AV.row 7 (List.length (([]:List S_api_Thread))),AV.row 8 (List.length (([]:List S_api_Claim)))],Ob.row 48 3 ([]),Ob.row 52 4 ([]),Ob.row 57 3 ([]),Ob.row 48 3 (List.map c_api_Var x78),Ob.row 52 4 ([]),Ob.row 57 3 ([])]) (fun v=>(AV.tup [AV.agg [iA v.1.f_Mod,AV.sl 3 (List.map c_api_Var v.1.f_Locs),AV.sl 4 (List.map c_api_Thread v.1.f_Threads),AV.sl 3 (List.map c_api_Claim v.1.f_Claims)],iA v.2],[])) (fun k s=>gen_Make_L2 n y1 k s.1 s.2) (fun s=>rfl) o72 n (0,([]:List S_api_Var)) (fun _=>0) ho72 ?_ ?_
 intro k65 ss a66 K67 cont68 hK69 hcont70 h hr71
 obtain ⟨s63,s64⟩:=ss
 replace h:gen_Make_L2 n y1 (k65+1) s63 s64=some o72:=h
 rw [gen_Make_L2] at h
 conv=>lhs;whnf
 revert h
 refine br ?_ ?_
 refine ix ?_;intro x74
 refine ar (ap c_api_Var (List.map c_api_Var s64) s64 ([[sA x74,iA (0),iA (0)]]) ([(⟨x74,0,0⟩:S_api_Var)]:List S_api_Var)) ?_
 exact fun h=>cq (hcont70 (IntKind.i64.wrap (s63+1),(s64++([(⟨x74,0,0⟩:S_api_Var)]:List S_api_Var))) (fun _=>0) h)
 intro h;cases sj h
 exact kq (hr71 (fun _=>0))
 refine lrc ?_ ?_
 intro v e;subst e;cases sj h;rfl
 intro x78 a77 e;subst e
 dsimp only at h
 conv=>lhs;whnf
 revert h
 intro h;refine bind_some2 h ?_;clear h;intro o89 ho89 h
 refine lq (σ:=((List S_api_Node)×Int×(List S_api_Thread))) (τ:=((List S_api_Node)×(List S_api_Thread))) (ν:=(S_api_Prog×Int)) 2 (fun (s79,s80,s81) a83=>stOf 119 [(1,iA v1_n),(6,AV.ptr 0 0),(9,AV.ptr 1 0),(10,AV.ptr 2 0),(13,AV.sl 5 (List.map c_api_Node s79)),(65,iA v1_n),(66,iA s80)]) (fun (s79,s80,s81) a83=>[Ob.var 26 [iA (0),AV.row 3 (List.length (([]:List S_api_Var))),AV.row 4 (List.length (([]:List S_api_Thread))),AV.row 5 (List.length (([]:List S_api_Claim)))],Ob.var 46 [AV.sl 1 (List.map encS y1.2.2.2.1),AV.sl 1 (List.map encS y1.2.2.2.2.1),AV.func 44 [] [],bA y1.2.2.2.2.2.1],Ob.var 26 [iA v2_mod,AV.row 6 (List.length x78),AV.row 7 (List.length s81),AV.row 8 (List.length (([]:List S_api_Claim)))],Ob.row 48 3 ([]),Ob.row 52 4 ([]),Ob.row 57 3 ([]),Ob.row 48 3 (List.map c_api_Var x78),Ob.row 52 4 (List.map c_api_Thread s81),Ob.row 57 3 ([])]) (fun (x104,x105) a103=>stOf 119 [(1,iA v1_n),(6,AV.ptr 0 0),(9,AV.ptr 1 0),(10,AV.ptr 2 0),(13,AV.sl 5 (List.map c_api_Node x104))]) (fun (x104,x105) a103=>[Ob.var 26 [iA (0),AV.row 3 (List.length (([]:List S_api_Var))),AV.row 4 (List.length (([]:List S_api_Thread))),AV.row 5 (List.length (([]:List S_api_Claim)))],Ob.var 46 [AV.sl 1 (List.map encS y1.2.2.2.1),AV.sl 1 (List.map encS y1.2.2.2.2.1),AV.func 44 [] [],bA y1.2.2.2.2.2.1],Ob.var 26 [iA v2_mod,AV.row 6 (List.length x78),AV.row 7 (List.length x105),AV.row 8 (List.length (([]:List S_api_Claim)))],Ob.row 48 3 ([]),Ob.row 52 4 ([]),Ob.row 57 3 ([]),Ob.row 48 3 (List.map c_api_Var x78),Ob.row 52 4 (List.map c_api_Thread x105),Ob.row 57 3 ([])]) (fun v=>(AV.tup [AV.agg [iA v.1.f_Mod,AV.sl 3 (List.map c_api_Var v.1.f_Locs),AV.sl 4 (List.map c_api_Thread v.1.f_Threads),AV.sl 3 (List.map c_api_Claim v.1.f_Claims)],iA v.2],[])) (fun k s=>gen_Make_L3 n v1_n y1 k s.1 s.2.1 s.2.2) (fun s=>rfl) o89 n (([]:List S_api_Node),0,([]:List S_api_Thread)) (fun _=>0) ho89 ?_ ?_
 intro k82 ss a83 K84 cont85 hK86 hcont87 h hr88
 obtain ⟨s79,s80,s81⟩:=ss
 replace h:gen_Make_L3 n v1_n y1 (k82+1) s79 s80 s81=some o89:=h
 rw [gen_Make_L3] at h
 conv=>lhs;whnf
 revert h
 refine br ?_ ?_
 refine cp ?_
 intro h
 refine chk_some2 h ?_;clear h;intro hc92 h
 first|refine bif_pos hc92 ?_|skip
 try simp only [ls]
 conv=>lhs;whnf
 revert h
 refine cn ?_
 refine ca hc (fun _ h=>ok_gen_kinds_1 h) ?_;intro y94
 refine ar (ap c_api_Thread (List.map c_api_Thread s81) s81 ([[sA ((([116]:List UInt8)++([UInt8.ofNat (IntKind.i32.wrap (IntKind.i64.wrap (48+s80))).toNat]))),AV.sl 1 (List.map encS y1.2.2.2.2.1),AV.sl 9 (List.map c_api_Stmt y94),iA (0)]]) ([(⟨(([116]:List UInt8)++([UInt8.ofNat (IntKind.i32.wrap (IntKind.i64.wrap (48+s80))).toNat])),y1.2.2.2.2.1,y94,0⟩:S_api_Thread)]:List S_api_Thread)) ?_
 refine ca hc (fun _ h=>ok_gen_of h) ?_;intro y98
 refine br ?_ ?_
 refine ca hc (fun _ h=>ok_gen_two h) ?_;intro y101
 exact fun h=>cq (hcont87 (y101,IntKind.i64.wrap (s80+1),(s81++([(⟨(([116]:List UInt8)++([UInt8.ofNat (IntKind.i32.wrap (IntKind.i64.wrap (48+s80))).toNat])),y1.2.2.2.2.1,y94,0⟩:S_api_Thread)]:List S_api_Thread))) (fun _=>0) h)
 exact fun h=>cq (hcont87 (y98,IntKind.i64.wrap (s80+1),(s81++([(⟨(([116]:List UInt8)++([UInt8.ofNat (IntKind.i32.wrap (IntKind.i64.wrap (48+s80))).toNat])),y1.2.2.2.2.1,y94,0⟩:S_api_Thread)]:List S_api_Thread))) (fun _=>0) h)
 intro h;cases sj h
 exact kq (hr88 (fun _=>0))
 refine lrc ?_ ?_
 intro v e;subst e;cases sj h;rfl
 intro t a103 e;subst e
 obtain ⟨x104,x105⟩:=t
 dsimp only at h
 conv=>lhs;whnf
 revert h
 refine br ?_ ?_
 refine ca hc (fun _ h=>ok_gen_num h) ?_;intro y107
 refine ca hc (fun _ h=>ok_gen_two h) ?_;intro y109
 refine ao (ap c_api_Claim ([]) ([]:List S_api_Claim) ([[iA (3),AV.sl 5 (List.map c_api_Node y109),iA (0)]]) ([(⟨3,y109,0⟩:S_api_Claim)]:List S_api_Claim)) ?_
 refine ca hc (fun _ h=>ok_gen_loc h) ?_;intro y113
 refine ca hc (fun _ h=>ok_gen_num h) ?_;intro y115
 refine ca hc (fun _ h=>ok_gen_two h) ?_;intro y117
 refine ar (ap c_api_Claim (List.map c_api_Claim (([]:List S_api_Claim)++([(⟨3,y109,0⟩:S_api_Claim)]:List S_api_Claim))) (([]:List S_api_Claim)++([(⟨3,y109,0⟩:S_api_Claim)]:List S_api_Claim)) ([[iA (1),AV.sl 5 (List.map c_api_Node y117),iA (0)]]) ([(⟨1,y117,0⟩:S_api_Claim)]:List S_api_Claim)) ?_
 intro h;cases sj h
 try simp only [ls]
 exact fq (y:=some (AV.tup [AV.agg [iA v2_mod,AV.sl 3 (List.take (List.length x78) (List.map c_api_Var x78)),AV.sl 4 (List.take (List.length x105) (List.map c_api_Thread x105)),AV.sl 3 (List.take (List.length (((([]:List S_api_Claim)++([(⟨3,y109,0⟩:S_api_Claim)]:List S_api_Claim))++([(⟨1,y117,0⟩:S_api_Claim)]:List S_api_Claim)))) (List.map c_api_Claim ((([]:List S_api_Claim)++([(⟨3,y109,0⟩:S_api_Claim)]:List S_api_Claim))++([(⟨1,y117,0⟩:S_api_Claim)]:List S_api_Claim))))],iA (0)],[]))
 refine ca hc (fun _ h=>ok_gen_loc h) ?_;intro y121
 refine ca hc (fun _ h=>ok_gen_num h) ?_;intro y123
 refine ca hc (fun _ h=>ok_gen_two h) ?_;intro y125
 refine ao (ap c_api_Claim ([]) ([]:List S_api_Claim) ([[iA (1),AV.sl 5 (List.map c_api_Node y125),iA (0)]]) ([(⟨1,y125,0⟩:S_api_Claim)]:List S_api_Claim)) ?_
 intro h;cases sj h
 try simp only [ls]
 exact fq (y:=some (AV.tup [AV.agg [iA v2_mod,AV.sl 3 (List.take (List.length x78) (List.map c_api_Var x78)),AV.sl 4 (List.take (List.length x105) (List.map c_api_Thread x105)),AV.sl 3 (List.take (List.length ((([]:List S_api_Claim)++([(⟨1,y125,0⟩:S_api_Claim)]:List S_api_Claim)))) (List.map c_api_Claim (([]:List S_api_Claim)++([(⟨1,y125,0⟩:S_api_Claim)]:List S_api_Claim))))],iA (0)],[]))
 refine il (fun hi131=>?_) ?_
 intro h
 refine bif_pos (by rw [hi131];rfl) ?_
 simp only [(show nth? ([[AV.sl 1 (List.map encS y1.1),AV.sl 1 (List.map encS y1.2.1),AV.nilf,bA y1.2.2.1],[AV.sl 1 (List.map encS y1.2.2.2.1),AV.sl 1 (List.map encS y1.2.2.2.2.1),AV.func 44 [] [],bA y1.2.2.2.2.2.1],[AV.sl 1 (List.map encS y1.2.2.2.2.2.2.1),AV.sl 1 (List.map encS y1.2.2.2.2.2.2.2.1),AV.func 47 [] [],bA y1.2.2.2.2.2.2.2.2.1],[AV.sl 1 (List.map encS y1.2.2.2.2.2.2.2.2.2.1),AV.sl 1 (List.map encS y1.2.2.2.2.2.2.2.2.2.2.1),AV.func 48 [] [],bA y1.2.2.2.2.2.2.2.2.2.2.2]]:List (List AV)) v0_which.toNat=some [AV.sl 1 (List.map encS y1.2.2.2.2.2.2.1),AV.sl 1 (List.map encS y1.2.2.2.2.2.2.2.1),AV.func 47 [] [],bA y1.2.2.2.2.2.2.2.2.1] from by rw [hi131];rfl),ls]
 conv=>lhs;whnf
 revert h
 intro h;refine bind_some2 h ?_;clear h;intro o141 ho141 h
 refine lq (σ:=(Int×(List S_api_Var))) (τ:=(List S_api_Var)) (ν:=(S_api_Prog×Int)) 0 (fun (s132,s133) a135=>stOf 119 [(1,iA v1_n),(6,AV.ptr 0 0),(9,AV.ptr 1 0),(10,AV.ptr 2 0),(51,AV.sl 1 (List.map encS y1.2.2.2.2.2.2.1)),(52,iA (((y1.2.2.2.2.2.2.1.length:Nat):Int))),(53,iA s132)]) (fun (s132,s133) a135=>[Ob.var 26 [iA (0),AV.row 3 (List.length (([]:List S_api_Var))),AV.row 4 (List.length (([]:List S_api_Thread))),AV.row 5 (List.length (([]:List S_api_Claim)))],Ob.var 46 [AV.sl 1 (List.map encS y1.2.2.2.2.2.2.1),AV.sl 1 (List.map encS y1.2.2.2.2.2.2.2.1),AV.func 47 [] [],bA y1.2.2.2.2.2.2.2.2.1],Ob.var 26 [iA v2_mod,AV.row 6 (List.length s133),AV.row 7 (List.length (([]:List S_api_Thread))),AV.row 8 (List.length (([]:List S_api_Claim)))],Ob.row 48 3 ([]),Ob.row 52 4 ([]),Ob.row 57 3 ([]),Ob.row 48 3 (List.map c_api_Var s133),Ob.row 52 4 ([]),Ob.row 57 3 ([])]) (fun x147 a146=>stOf 119 [(1,iA v1_n),(6,AV.ptr 0 0),(9,AV.ptr 1 0),(10,AV.ptr 2 0)]) (fun x147 a146=>[Ob.var 26 [iA (0),AV.row 3 (List.length (([]:List S_api_Var))),AV.row 4 (List.length (([]:List S_api_Thread))),AV.row 5 (List.length (([]:List S_api_Claim)))],Ob.var 46 [AV.sl 1 (List.map encS y1.2.2.2.2.2.2.1),AV.sl 1 (List.map encS y1.2.2.2.2.2.2.2.1),AV.func 47 [] [],bA y1.2.2.2.2.2.2.2.2.1],Ob.var 26 [iA v2_mod,AV.row 6 (List.length x147),AV.row 7 (List.length (([]:List S_api_Thread))),AV.row 8 (List.length (([]:List S_api_Claim)))],Ob.row 48 3 ([]),Ob.row 52 4 ([]),Ob.row 57 3 ([]),Ob.row 48 3 (List.map c_api_Var x147),Ob.row 52 4 ([]),Ob.row 57 3 ([])]) (fun v=>(AV.tup [AV.agg [iA v.1.f_Mod,AV.sl 3 (List.map c_api_Var v.1.f_Locs),AV.sl 4 (List.map c_api_Thread v.1.f_Threads),AV.sl 3 (List.map c_api_Claim v.1.f_Claims)],iA v.2],[])) (fun k s=>gen_Make_L4 n y1 k s.1 s.2) (fun s=>rfl) o141 n (0,([]:List S_api_Var)) (fun _=>0) ho141 ?_ ?_
 intro k134 ss a135 K136 cont137 hK138 hcont139 h hr140
 obtain ⟨s132,s133⟩:=ss
 replace h:gen_Make_L4 n y1 (k134+1) s132 s133=some o141:=h
 rw [gen_Make_L4] at h
 conv=>lhs;whnf
 revert h
 refine br ?_ ?_
 refine ix ?_;intro x143
 refine ar (ap c_api_Var (List.map c_api_Var s133) s133 ([[sA x143,iA (0),iA (0)]]) ([(⟨x143,0,0⟩:S_api_Var)]:List S_api_Var)) ?_
 exact fun h=>cq (hcont139 (IntKind.i64.wrap (s132+1),(s133++([(⟨x143,0,0⟩:S_api_Var)]:List S_api_Var))) (fun _=>0) h)
 intro h;cases sj h
 exact kq (hr140 (fun _=>0))
 refine lrc ?_ ?_
 intro v e;subst e;cases sj h;rfl
 intro x147 a146 e;subst e
 dsimp only at h
 conv=>lhs;whnf
 revert h
 intro h;refine bind_some2 h ?_;clear h;intro o158 ho158 h
 refine lq (σ:=((List S_api_Node)×Int×(List S_api_Thread))) (τ:=((List S_api_Node)×(List S_api_Thread))) (ν:=(S_api_Prog×Int)) 2 (fun (s148,s149,s150) a152=>stOf 119 [(1,iA v1_n),(6,AV.ptr 0 0),(9,AV.ptr 1 0),(10,AV.ptr 2 0),(13,AV.sl 5 (List.map c_api_Node s148)),(65,iA v1_n),(66,iA s149)]) (fun (s148,s149,s150) a152=>[Ob.var 26 [iA (0),AV.row 3 (List.length (([]:List S_api_Var))),AV.row 4 (List.length (([]:List S_api_Thread))),AV.row 5 (List.length (([]:List S_api_Claim)))],Ob.var 46 [AV.sl 1 (List.map encS y1.2.2.2.2.2.2.1),AV.sl 1 (List.map encS y1.2.2.2.2.2.2.2.1),AV.func 47 [] [],bA y1.2.2.2.2.2.2.2.2.1],Ob.var 26 [iA v2_mod,AV.row 6 (List.length x147),AV.row 7 (List.length s150),AV.row 8 (List.length (([]:List S_api_Claim)))],Ob.row 48 3 ([]),Ob.row 52 4 ([]),Ob.row 57 3 ([]),Ob.row 48 3 (List.map c_api_Var x147),Ob.row 52 4 (List.map c_api_Thread s150),Ob.row 57 3 ([])]) (fun (x173,x174) a172=>stOf 119 [(1,iA v1_n),(6,AV.ptr 0 0),(9,AV.ptr 1 0),(10,AV.ptr 2 0),(13,AV.sl 5 (List.map c_api_Node x173))]) (fun (x173,x174) a172=>[Ob.var 26 [iA (0),AV.row 3 (List.length (([]:List S_api_Var))),AV.row 4 (List.length (([]:List S_api_Thread))),AV.row 5 (List.length (([]:List S_api_Claim)))],Ob.var 46 [AV.sl 1 (List.map encS y1.2.2.2.2.2.2.1),AV.sl 1 (List.map encS y1.2.2.2.2.2.2.2.1),AV.func 47 [] [],bA y1.2.2.2.2.2.2.2.2.1],Ob.var 26 [iA v2_mod,AV.row 6 (List.length x147),AV.row 7 (List.length x174),AV.row 8 (List.length (([]:List S_api_Claim)))],Ob.row 48 3 ([]),Ob.row 52 4 ([]),Ob.row 57 3 ([]),Ob.row 48 3 (List.map c_api_Var x147),Ob.row 52 4 (List.map c_api_Thread x174),Ob.row 57 3 ([])]) (fun v=>(AV.tup [AV.agg [iA v.1.f_Mod,AV.sl 3 (List.map c_api_Var v.1.f_Locs),AV.sl 4 (List.map c_api_Thread v.1.f_Threads),AV.sl 3 (List.map c_api_Claim v.1.f_Claims)],iA v.2],[])) (fun k s=>gen_Make_L5 n v1_n y1 k s.1 s.2.1 s.2.2) (fun s=>rfl) o158 n (([]:List S_api_Node),0,([]:List S_api_Thread)) (fun _=>0) ho158 ?_ ?_
 intro k151 ss a152 K153 cont154 hK155 hcont156 h hr157
 obtain ⟨s148,s149,s150⟩:=ss
 replace h:gen_Make_L5 n v1_n y1 (k151+1) s148 s149 s150=some o158:=h
 rw [gen_Make_L5] at h
 conv=>lhs;whnf
 revert h
 refine br ?_ ?_
 refine cp ?_
 intro h
 refine chk_some2 h ?_;clear h;intro hc161 h
 first|refine bif_pos hc161 ?_|skip
 try simp only [ls]
 conv=>lhs;whnf
 revert h
 refine cn ?_
 refine ca hc (fun _ h=>ok_gen_kinds_2 h) ?_;intro y163
 refine ar (ap c_api_Thread (List.map c_api_Thread s150) s150 ([[sA ((([116]:List UInt8)++([UInt8.ofNat (IntKind.i32.wrap (IntKind.i64.wrap (48+s149))).toNat]))),AV.sl 1 (List.map encS y1.2.2.2.2.2.2.2.1),AV.sl 9 (List.map c_api_Stmt y163),iA (0)]]) ([(⟨(([116]:List UInt8)++([UInt8.ofNat (IntKind.i32.wrap (IntKind.i64.wrap (48+s149))).toNat])),y1.2.2.2.2.2.2.2.1,y163,0⟩:S_api_Thread)]:List S_api_Thread)) ?_
 refine ca hc (fun _ h=>ok_gen_of h) ?_;intro y167
 refine br ?_ ?_
 refine ca hc (fun _ h=>ok_gen_two h) ?_;intro y170
 exact fun h=>cq (hcont156 (y170,IntKind.i64.wrap (s149+1),(s150++([(⟨(([116]:List UInt8)++([UInt8.ofNat (IntKind.i32.wrap (IntKind.i64.wrap (48+s149))).toNat])),y1.2.2.2.2.2.2.2.1,y163,0⟩:S_api_Thread)]:List S_api_Thread))) (fun _=>0) h)
 exact fun h=>cq (hcont156 (y167,IntKind.i64.wrap (s149+1),(s150++([(⟨(([116]:List UInt8)++([UInt8.ofNat (IntKind.i32.wrap (IntKind.i64.wrap (48+s149))).toNat])),y1.2.2.2.2.2.2.2.1,y163,0⟩:S_api_Thread)]:List S_api_Thread))) (fun _=>0) h)
 intro h;cases sj h
 exact kq (hr157 (fun _=>0))
 refine lrc ?_ ?_
 intro v e;subst e;cases sj h;rfl
 intro t a172 e;subst e
 obtain ⟨x173,x174⟩:=t
 dsimp only at h
 conv=>lhs;whnf
 revert h
 refine br ?_ ?_
 refine ca hc (fun _ h=>ok_gen_num h) ?_;intro y176
 refine ca hc (fun _ h=>ok_gen_two h) ?_;intro y178
 refine ao (ap c_api_Claim ([]) ([]:List S_api_Claim) ([[iA (3),AV.sl 5 (List.map c_api_Node y178),iA (0)]]) ([(⟨3,y178,0⟩:S_api_Claim)]:List S_api_Claim)) ?_
 refine ca hc (fun _ h=>ok_gen_loc h) ?_;intro y182
 refine ca hc (fun _ h=>ok_gen_num h) ?_;intro y184
 refine ca hc (fun _ h=>ok_gen_two h) ?_;intro y186
 refine ar (ap c_api_Claim (List.map c_api_Claim (([]:List S_api_Claim)++([(⟨3,y178,0⟩:S_api_Claim)]:List S_api_Claim))) (([]:List S_api_Claim)++([(⟨3,y178,0⟩:S_api_Claim)]:List S_api_Claim)) ([[iA (1),AV.sl 5 (List.map c_api_Node y186),iA (0)]]) ([(⟨1,y186,0⟩:S_api_Claim)]:List S_api_Claim)) ?_
 intro h;cases sj h
 try simp only [ls]
 exact fq (y:=some (AV.tup [AV.agg [iA v2_mod,AV.sl 3 (List.take (List.length x147) (List.map c_api_Var x147)),AV.sl 4 (List.take (List.length x174) (List.map c_api_Thread x174)),AV.sl 3 (List.take (List.length (((([]:List S_api_Claim)++([(⟨3,y178,0⟩:S_api_Claim)]:List S_api_Claim))++([(⟨1,y186,0⟩:S_api_Claim)]:List S_api_Claim)))) (List.map c_api_Claim ((([]:List S_api_Claim)++([(⟨3,y178,0⟩:S_api_Claim)]:List S_api_Claim))++([(⟨1,y186,0⟩:S_api_Claim)]:List S_api_Claim))))],iA (0)],[]))
 refine ca hc (fun _ h=>ok_gen_loc h) ?_;intro y190
 refine ca hc (fun _ h=>ok_gen_num h) ?_;intro y192
 refine ca hc (fun _ h=>ok_gen_two h) ?_;intro y194
 refine ao (ap c_api_Claim ([]) ([]:List S_api_Claim) ([[iA (1),AV.sl 5 (List.map c_api_Node y194),iA (0)]]) ([(⟨1,y194,0⟩:S_api_Claim)]:List S_api_Claim)) ?_
 intro h;cases sj h
 try simp only [ls]
 exact fq (y:=some (AV.tup [AV.agg [iA v2_mod,AV.sl 3 (List.take (List.length x147) (List.map c_api_Var x147)),AV.sl 4 (List.take (List.length x174) (List.map c_api_Thread x174)),AV.sl 3 (List.take (List.length ((([]:List S_api_Claim)++([(⟨1,y194,0⟩:S_api_Claim)]:List S_api_Claim)))) (List.map c_api_Claim (([]:List S_api_Claim)++([(⟨1,y194,0⟩:S_api_Claim)]:List S_api_Claim))))],iA (0)],[]))
 refine il (fun hi200=>?_) ?_
 intro h
 refine bif_pos (by rw [hi200];rfl) ?_
 simp only [(show nth? ([[AV.sl 1 (List.map encS y1.1),AV.sl 1 (List.map encS y1.2.1),AV.nilf,bA y1.2.2.1],[AV.sl 1 (List.map encS y1.2.2.2.1),AV.sl 1 (List.map encS y1.2.2.2.2.1),AV.func 44 [] [],bA y1.2.2.2.2.2.1],[AV.sl 1 (List.map encS y1.2.2.2.2.2.2.1),AV.sl 1 (List.map encS y1.2.2.2.2.2.2.2.1),AV.func 47 [] [],bA y1.2.2.2.2.2.2.2.2.1],[AV.sl 1 (List.map encS y1.2.2.2.2.2.2.2.2.2.1),AV.sl 1 (List.map encS y1.2.2.2.2.2.2.2.2.2.2.1),AV.func 48 [] [],bA y1.2.2.2.2.2.2.2.2.2.2.2]]:List (List AV)) v0_which.toNat=some [AV.sl 1 (List.map encS y1.2.2.2.2.2.2.2.2.2.1),AV.sl 1 (List.map encS y1.2.2.2.2.2.2.2.2.2.2.1),AV.func 48 [] [],bA y1.2.2.2.2.2.2.2.2.2.2.2] from by rw [hi200];rfl),ls]
 conv=>lhs;whnf
 revert h
 intro h;refine bind_some2 h ?_;clear h;intro o210 ho210 h
 refine lq (σ:=(Int×(List S_api_Var))) (τ:=(List S_api_Var)) (ν:=(S_api_Prog×Int)) 0 (fun (s201,s202) a204=>stOf 119 [(1,iA v1_n),(6,AV.ptr 0 0),(9,AV.ptr 1 0),(10,AV.ptr 2 0),(51,AV.sl 1 (List.map encS y1.2.2.2.2.2.2.2.2.2.1)),(52,iA (((y1.2.2.2.2.2.2.2.2.2.1.length:Nat):Int))),(53,iA s201)]) (fun (s201,s202) a204=>[Ob.var 26 [iA (0),AV.row 3 (List.length (([]:List S_api_Var))),AV.row 4 (List.length (([]:List S_api_Thread))),AV.row 5 (List.length (([]:List S_api_Claim)))],Ob.var 46 [AV.sl 1 (List.map encS y1.2.2.2.2.2.2.2.2.2.1),AV.sl 1 (List.map encS y1.2.2.2.2.2.2.2.2.2.2.1),AV.func 48 [] [],bA y1.2.2.2.2.2.2.2.2.2.2.2],Ob.var 26 [iA v2_mod,AV.row 6 (List.length s202),AV.row 7 (List.length (([]:List S_api_Thread))),AV.row 8 (List.length (([]:List S_api_Claim)))],Ob.row 48 3 ([]),Ob.row 52 4 ([]),Ob.row 57 3 ([]),Ob.row 48 3 (List.map c_api_Var s202),Ob.row 52 4 ([]),Ob.row 57 3 ([])]) (fun x216 a215=>stOf 119 [(1,iA v1_n),(6,AV.ptr 0 0),(9,AV.ptr 1 0),(10,AV.ptr 2 0)]) (fun x216 a215=>[Ob.var 26 [iA (0),AV.row 3 (List.length (([]:List S_api_Var))),AV.row 4 (List.length (([]:List S_api_Thread))),AV.row 5 (List.length (([]:List S_api_Claim)))],Ob.var 46 [AV.sl 1 (List.map encS y1.2.2.2.2.2.2.2.2.2.1),AV.sl 1 (List.map encS y1.2.2.2.2.2.2.2.2.2.2.1),AV.func 48 [] [],bA y1.2.2.2.2.2.2.2.2.2.2.2],Ob.var 26 [iA v2_mod,AV.row 6 (List.length x216),AV.row 7 (List.length (([]:List S_api_Thread))),AV.row 8 (List.length (([]:List S_api_Claim)))],Ob.row 48 3 ([]),Ob.row 52 4 ([]),Ob.row 57 3 ([]),Ob.row 48 3 (List.map c_api_Var x216),Ob.row 52 4 ([]),Ob.row 57 3 ([])]) (fun v=>(AV.tup [AV.agg [iA v.1.f_Mod,AV.sl 3 (List.map c_api_Var v.1.f_Locs),AV.sl 4 (List.map c_api_Thread v.1.f_Threads),AV.sl 3 (List.map c_api_Claim v.1.f_Claims)],iA v.2],[])) (fun k s=>gen_Make_L6 n y1 k s.1 s.2) (fun s=>rfl) o210 n (0,([]:List S_api_Var)) (fun _=>0) ho210 ?_ ?_
 intro k203 ss a204 K205 cont206 hK207 hcont208 h hr209
 obtain ⟨s201,s202⟩:=ss
 replace h:gen_Make_L6 n y1 (k203+1) s201 s202=some o210:=h
 rw [gen_Make_L6] at h
 conv=>lhs;whnf
 revert h
 refine br ?_ ?_
 refine ix ?_;intro x212
 refine ar (ap c_api_Var (List.map c_api_Var s202) s202 ([[sA x212,iA (0),iA (0)]]) ([(⟨x212,0,0⟩:S_api_Var)]:List S_api_Var)) ?_
 exact fun h=>cq (hcont208 (IntKind.i64.wrap (s201+1),(s202++([(⟨x212,0,0⟩:S_api_Var)]:List S_api_Var))) (fun _=>0) h)
 intro h;cases sj h
 exact kq (hr209 (fun _=>0))
 refine lrc ?_ ?_
 intro v e;subst e;cases sj h;rfl
 intro x216 a215 e;subst e
 dsimp only at h
 conv=>lhs;whnf
 revert h
 intro h;refine bind_some2 h ?_;clear h;intro o227 ho227 h
 refine lq (σ:=((List S_api_Node)×Int×(List S_api_Thread))) (τ:=((List S_api_Node)×(List S_api_Thread))) (ν:=(S_api_Prog×Int)) 2 (fun (s217,s218,s219) a221=>stOf 119 [(1,iA v1_n),(6,AV.ptr 0 0),(9,AV.ptr 1 0),(10,AV.ptr 2 0),(13,AV.sl 5 (List.map c_api_Node s217)),(65,iA v1_n),(66,iA s218)]) (fun (s217,s218,s219) a221=>[Ob.var 26 [iA (0),AV.row 3 (List.length (([]:List S_api_Var))),AV.row 4 (List.length (([]:List S_api_Thread))),AV.row 5 (List.length (([]:List S_api_Claim)))],Ob.var 46 [AV.sl 1 (List.map encS y1.2.2.2.2.2.2.2.2.2.1),AV.sl 1 (List.map encS y1.2.2.2.2.2.2.2.2.2.2.1),AV.func 48 [] [],bA y1.2.2.2.2.2.2.2.2.2.2.2],Ob.var 26 [iA v2_mod,AV.row 6 (List.length x216),AV.row 7 (List.length s219),AV.row 8 (List.length (([]:List S_api_Claim)))],Ob.row 48 3 ([]),Ob.row 52 4 ([]),Ob.row 57 3 ([]),Ob.row 48 3 (List.map c_api_Var x216),Ob.row 52 4 (List.map c_api_Thread s219),Ob.row 57 3 ([])]) (fun (x242,x243) a241=>stOf 119 [(1,iA v1_n),(6,AV.ptr 0 0),(9,AV.ptr 1 0),(10,AV.ptr 2 0),(13,AV.sl 5 (List.map c_api_Node x242))]) (fun (x242,x243) a241=>[Ob.var 26 [iA (0),AV.row 3 (List.length (([]:List S_api_Var))),AV.row 4 (List.length (([]:List S_api_Thread))),AV.row 5 (List.length (([]:List S_api_Claim)))],Ob.var 46 [AV.sl 1 (List.map encS y1.2.2.2.2.2.2.2.2.2.1),AV.sl 1 (List.map encS y1.2.2.2.2.2.2.2.2.2.2.1),AV.func 48 [] [],bA y1.2.2.2.2.2.2.2.2.2.2.2],Ob.var 26 [iA v2_mod,AV.row 6 (List.length x216),AV.row 7 (List.length x243),AV.row 8 (List.length (([]:List S_api_Claim)))],Ob.row 48 3 ([]),Ob.row 52 4 ([]),Ob.row 57 3 ([]),Ob.row 48 3 (List.map c_api_Var x216),Ob.row 52 4 (List.map c_api_Thread x243),Ob.row 57 3 ([])]) (fun v=>(AV.tup [AV.agg [iA v.1.f_Mod,AV.sl 3 (List.map c_api_Var v.1.f_Locs),AV.sl 4 (List.map c_api_Thread v.1.f_Threads),AV.sl 3 (List.map c_api_Claim v.1.f_Claims)],iA v.2],[])) (fun k s=>gen_Make_L7 n v1_n y1 k s.1 s.2.1 s.2.2) (fun s=>rfl) o227 n (([]:List S_api_Node),0,([]:List S_api_Thread)) (fun _=>0) ho227 ?_ ?_
 intro k220 ss a221 K222 cont223 hK224 hcont225 h hr226
 obtain ⟨s217,s218,s219⟩:=ss
 replace h:gen_Make_L7 n v1_n y1 (k220+1) s217 s218 s219=some o227:=h
 rw [gen_Make_L7] at h
 conv=>lhs;whnf
 revert h
 refine br ?_ ?_
 refine cp ?_
 intro h
 refine chk_some2 h ?_;clear h;intro hc230 h
 first|refine bif_pos hc230 ?_|skip
 try simp only [ls]
 conv=>lhs;whnf
 revert h
 refine cn ?_
 refine ca hc (fun _ h=>ok_gen_kinds_3 h) ?_;intro y232
 refine ar (ap c_api_Thread (List.map c_api_Thread s219) s219 ([[sA ((([116]:List UInt8)++([UInt8.ofNat (IntKind.i32.wrap (IntKind.i64.wrap (48+s218))).toNat]))),AV.sl 1 (List.map encS y1.2.2.2.2.2.2.2.2.2.2.1),AV.sl 9 (List.map c_api_Stmt y232),iA (0)]]) ([(⟨(([116]:List UInt8)++([UInt8.ofNat (IntKind.i32.wrap (IntKind.i64.wrap (48+s218))).toNat])),y1.2.2.2.2.2.2.2.2.2.2.1,y232,0⟩:S_api_Thread)]:List S_api_Thread)) ?_
 refine ca hc (fun _ h=>ok_gen_of h) ?_;intro y236
 refine br ?_ ?_
 refine ca hc (fun _ h=>ok_gen_two h) ?_;intro y239
 exact fun h=>cq (hcont225 (y239,IntKind.i64.wrap (s218+1),(s219++([(⟨(([116]:List UInt8)++([UInt8.ofNat (IntKind.i32.wrap (IntKind.i64.wrap (48+s218))).toNat])),y1.2.2.2.2.2.2.2.2.2.2.1,y232,0⟩:S_api_Thread)]:List S_api_Thread))) (fun _=>0) h)
 exact fun h=>cq (hcont225 (y236,IntKind.i64.wrap (s218+1),(s219++([(⟨(([116]:List UInt8)++([UInt8.ofNat (IntKind.i32.wrap (IntKind.i64.wrap (48+s218))).toNat])),y1.2.2.2.2.2.2.2.2.2.2.1,y232,0⟩:S_api_Thread)]:List S_api_Thread))) (fun _=>0) h)
 intro h;cases sj h
 exact kq (hr226 (fun _=>0))
 refine lrc ?_ ?_
 intro v e;subst e;cases sj h;rfl
 intro t a241 e;subst e
 obtain ⟨x242,x243⟩:=t
 dsimp only at h
 conv=>lhs;whnf
 revert h
 refine br ?_ ?_
 refine ca hc (fun _ h=>ok_gen_num h) ?_;intro y245
 refine ca hc (fun _ h=>ok_gen_two h) ?_;intro y247
 refine ao (ap c_api_Claim ([]) ([]:List S_api_Claim) ([[iA (3),AV.sl 5 (List.map c_api_Node y247),iA (0)]]) ([(⟨3,y247,0⟩:S_api_Claim)]:List S_api_Claim)) ?_
 refine ca hc (fun _ h=>ok_gen_loc h) ?_;intro y251
 refine ca hc (fun _ h=>ok_gen_num h) ?_;intro y253
 refine ca hc (fun _ h=>ok_gen_two h) ?_;intro y255
 refine ar (ap c_api_Claim (List.map c_api_Claim (([]:List S_api_Claim)++([(⟨3,y247,0⟩:S_api_Claim)]:List S_api_Claim))) (([]:List S_api_Claim)++([(⟨3,y247,0⟩:S_api_Claim)]:List S_api_Claim)) ([[iA (1),AV.sl 5 (List.map c_api_Node y255),iA (0)]]) ([(⟨1,y255,0⟩:S_api_Claim)]:List S_api_Claim)) ?_
 intro h;cases sj h
 try simp only [ls]
 exact fq (y:=some (AV.tup [AV.agg [iA v2_mod,AV.sl 3 (List.take (List.length x216) (List.map c_api_Var x216)),AV.sl 4 (List.take (List.length x243) (List.map c_api_Thread x243)),AV.sl 3 (List.take (List.length (((([]:List S_api_Claim)++([(⟨3,y247,0⟩:S_api_Claim)]:List S_api_Claim))++([(⟨1,y255,0⟩:S_api_Claim)]:List S_api_Claim)))) (List.map c_api_Claim ((([]:List S_api_Claim)++([(⟨3,y247,0⟩:S_api_Claim)]:List S_api_Claim))++([(⟨1,y255,0⟩:S_api_Claim)]:List S_api_Claim))))],iA (0)],[]))
 refine ca hc (fun _ h=>ok_gen_loc h) ?_;intro y259
 refine ca hc (fun _ h=>ok_gen_num h) ?_;intro y261
 refine ca hc (fun _ h=>ok_gen_two h) ?_;intro y263
 refine ao (ap c_api_Claim ([]) ([]:List S_api_Claim) ([[iA (1),AV.sl 5 (List.map c_api_Node y263),iA (0)]]) ([(⟨1,y263,0⟩:S_api_Claim)]:List S_api_Claim)) ?_
 intro h;cases sj h
 try simp only [ls]
 exact fq (y:=some (AV.tup [AV.agg [iA v2_mod,AV.sl 3 (List.take (List.length x216) (List.map c_api_Var x216)),AV.sl 4 (List.take (List.length x243) (List.map c_api_Thread x243)),AV.sl 3 (List.take (List.length ((([]:List S_api_Claim)++([(⟨1,y263,0⟩:S_api_Claim)]:List S_api_Claim)))) (List.map c_api_Claim (([]:List S_api_Claim)++([(⟨1,y263,0⟩:S_api_Claim)]:List S_api_Claim))))],iA (0)],[]))
 exact nn
theorem ok_gen_Barrier {n:Nat} ⦃v0_n:Int⦄ ⦃v1_mod:Int⦄ ⦃r:(S_api_Prog×Int)⦄:m_gen_Barrier n v0_n v1_mod=some r→CN n 15 [iA v0_n,iA v1_mod] []=some (AV.tup [AV.agg [iA r.1.f_Mod,AV.sl 3 (List.map c_api_Var r.1.f_Locs),AV.sl 4 (List.map c_api_Thread r.1.f_Threads),AV.sl 3 (List.map c_api_Claim r.1.f_Claims)],iA r.2],[]):=by
 intro h;rcases n with _|n;cases h
 rw [m_gen_Barrier] at h
 refine callN_eq' Tryz.func15 (by rfl) rfl rfl (Nat.le_of_ble_eq_true rfl) ?_
 intro call hc;conv=>lhs;whnf
 revert h
 refine ca hc (fun _ h=>ok_gen_Make h) ?_;intro y1
 exact rz
theorem ok_gen_Lock {n:Nat} ⦃v0_n:Int⦄ ⦃v1_mod:Int⦄ ⦃r:(S_api_Prog×Int)⦄:m_gen_Lock n v0_n v1_mod=some r→CN n 13 [iA v0_n,iA v1_mod] []=some (AV.tup [AV.agg [iA r.1.f_Mod,AV.sl 3 (List.map c_api_Var r.1.f_Locs),AV.sl 4 (List.map c_api_Thread r.1.f_Threads),AV.sl 3 (List.map c_api_Claim r.1.f_Claims)],iA r.2],[]):=by
 intro h;rcases n with _|n;cases h
 rw [m_gen_Lock] at h
 refine callN_eq' Tryz.func13 (by rfl) rfl rfl (Nat.le_of_ble_eq_true rfl) ?_
 intro call hc;conv=>lhs;whnf
 revert h
 refine ca hc (fun _ h=>ok_gen_Make h) ?_;intro y1
 exact rz
theorem ok_gen_Text {n:Nat} ⦃v0_which:Int⦄ ⦃v1_n:Int⦄ ⦃v2_mod:Int⦄ ⦃r:(List UInt8)⦄:m_gen_Text n v0_which v1_n v2_mod=some r→CN n 8 [iA v0_which,iA v1_n,iA v2_mod] []=some (sA r,[]):=by
 intro h;rcases n with _|n;cases h
 rw [m_gen_Text] at h
 refine callN_eq' Tryz.func8 (by rfl) rfl rfl (Nat.le_of_ble_eq_true rfl) ?_
 intro call hc;conv=>lhs;whnf
 revert h
 refine ca hc (fun _ h=>ok_gen_Make h) ?_;intro y1
 refine br ?_ ?_
 exact rz
 refine ca hc (fun _ h=>ok_prog_Show h) ?_;intro y4
 exact rz
theorem ok_gen_Ticket {n:Nat} ⦃v0_n:Int⦄ ⦃v1_mod:Int⦄ ⦃r:(S_api_Prog×Int)⦄:m_gen_Ticket n v0_n v1_mod=some r→CN n 14 [iA v0_n,iA v1_mod] []=some (AV.tup [AV.agg [iA r.1.f_Mod,AV.sl 3 (List.map c_api_Var r.1.f_Locs),AV.sl 4 (List.map c_api_Thread r.1.f_Threads),AV.sl 3 (List.map c_api_Claim r.1.f_Claims)],iA r.2],[]):=by
 intro h;rcases n with _|n;cases h
 rw [m_gen_Ticket] at h
 refine callN_eq' Tryz.func14 (by rfl) rfl rfl (Nat.le_of_ble_eq_true rfl) ?_
 intro call hc;conv=>lhs;whnf
 revert h
 refine ca hc (fun _ h=>ok_gen_Make h) ?_;intro y1
 exact rz
end Go.Proofs.YtgelgahilfojdaaGreat
end
section
namespace Go.Proofs.YtgelgahilfojdaaGreat
set_option linter.unusedVariables false
set_option linter.unusedSimpArgs false
set_option maxRecDepth 100000
set_option maxHeartbeats 4000000
theorem ok_law26_known {n:Nat} ⦃r:Bool⦄:m_law26_known n=some r→CN n 10 [] []=some (bA r,[]):=by
 intro h;rcases n with _|n;cases h
 rw [m_law26_known] at h
 refine callN_eq' Tryz.func10 (by rfl) rfl rfl (Nat.le_of_ble_eq_true rfl) ?_
 intro call hc;conv=>lhs;whnf
 revert h
 refine ca hc (fun _ h=>ok_gen_Lock h) ?_;intro y1
 refine ca hc (fun _ h=>ok_gen_Ticket h) ?_;intro y3
 refine br ?_ ?_
 refine br ?_ ?_
 refine br ?_ ?_
 refine br ?_ ?_
 refine br ?_ ?_
 refine ca hc (fun _ h=>ok_gen_Text h) ?_;intro y10
 refine br ?_ ?_
 refine ca hc (fun _ h=>ok_gen_Text h) ?_;intro y13
 exact rz
 exact rz
 exact rz
 exact rz
 exact rz
 exact rz
 exact rz
end Go.Proofs.YtgelgahilfojdaaGreat
end
section
namespace Go.Proofs.YtgelgahilfojdaaGreat
set_option linter.unusedVariables false
set_option linter.unusedSimpArgs false
set_option maxRecDepth 100000
set_option maxHeartbeats 4000000
theorem ok_ref01_gap {n:Nat} ⦃v0_s:(List UInt8)⦄ ⦃v1_at:Int⦄ ⦃r:Int⦄:m_ref01_gap n v0_s v1_at=some r→CN n 57 [sA v0_s,iA v1_at] []=some (iA r,[]):=by
 intro h;rcases n with _|n;cases h
 rw [m_ref01_gap] at h
 refine callN_eq' Tryz.func57 (by rfl) rfl rfl (Nat.le_of_ble_eq_true rfl) ?_
 intro call hc;conv=>lhs;whnf
 revert h
 intro h;refine bind_some2 h ?_;clear h;intro o9 ho9 h
 refine lq (σ:=Int) (τ:=Int) (ν:=Int) 0 (fun s1 a3=>stOf 53 [(0,sA v0_s),(1,iA s1)]) (fun s1 a3=>[]) (fun x37 a36=>stOf 53 [(1,iA x37)]) (fun x37 a36=>[]) (fun v=>(iA v,[])) (fun k s=>ref01_gap_L0 n v0_s k s) (fun s=>rfl) o9 n v1_at (fun _=>0) ho9 ?_ ?_
 intro k2 s1 a3 K4 cont5 hK6 hcont7 h hr8
 replace h:ref01_gap_L0 n v0_s (k2+1) s1=some o9:=h
 rw [ref01_gap_L0] at h
 conv=>lhs;whnf
 revert h
 refine br ?_ ?_
 refine ixs ?_;intro x11
 refine br ?_ ?_
 exact fun h=>cq (hcont7 (IntKind.i64.wrap (s1+1)) (fun _=>0) h)
 refine ixs ?_;intro x13
 refine br ?_ ?_
 exact fun h=>cq (hcont7 (IntKind.i64.wrap (s1+1)) (fun _=>0) h)
 refine ixs ?_;intro x15
 refine br ?_ ?_
 exact fun h=>cq (hcont7 (IntKind.i64.wrap (s1+1)) (fun _=>0) h)
 refine ixs ?_;intro x17
 refine br ?_ ?_
 exact fun h=>cq (hcont7 (IntKind.i64.wrap (s1+1)) (fun _=>0) h)
 refine ixs ?_;intro x19
 refine br ?_ ?_
 intro h;refine bind_some2 h ?_;clear h;intro o29 ho29 h
 refine lq (σ:=Int) (τ:=Int) (ν:=Int) 3 (fun s21 a23=>stOf 53 [(0,sA v0_s),(1,iA s21)]) (fun s21 a23=>[]) (fun x34 a33=>stOf 53 [(0,sA v0_s),(1,iA x34)]) (fun x34 a33=>[]) (fun v=>(iA v,[])) (fun k s=>ref01_gap_L1 n v0_s k s) (fun s=>rfl) o29 n s1 (fun _=>0) ho29 ?_ ?_
 intro k22 s21 a23 K24 cont25 hK26 hcont27 h hr28
 replace h:ref01_gap_L1 n v0_s (k22+1) s21=some o29:=h
 rw [ref01_gap_L1] at h
 conv=>lhs;whnf
 revert h
 refine br ?_ ?_
 refine ixs ?_;intro x31
 refine br ?_ ?_
 exact fun h=>cq (hcont27 (IntKind.i64.wrap (s21+1)) (fun _=>0) h)
 intro h;cases sj h
 exact kq (hr28 (fun _=>0))
 intro h;cases sj h
 exact kq (hr28 (fun _=>0))
 refine lrc ?_ ?_
 intro v e;subst e;cases sj h;exact hr8
 intro x34 a33 e;subst e
 dsimp only at h
 conv=>lhs;whnf
 revert h
 exact fun h=>cq (hcont7 x34 (fun _=>0) h)
 intro h;cases sj h
 refine (hK6 _ _).trans ?_
 refine Eq.trans ?_ (Eq.symm (show _=some _ from hr8))
 conv=>lhs;whnf
 exact rq
 intro h;cases sj h
 exact kq (hr8 (fun _=>0))
 refine lrc ?_ ?_
 intro v e;subst e;cases sj h;rfl
 intro x37 a36 e;subst e
 dsimp only at h
 conv=>lhs;whnf
 revert h
 exact rz
theorem ok_ref01_digit {n:Nat} ⦃v0_c:Int⦄ ⦃r:Bool⦄:m_ref01_digit n v0_c=some r→CN n 76 [AV.int .u8 v0_c] []=some (bA r,[]):=by
 intro h;rcases n with _|n;cases h
 rw [m_ref01_digit] at h
 refine callN_eq' Tryz.func76 (by rfl) rfl rfl (Nat.le_of_ble_eq_true rfl) ?_
 intro call hc;conv=>lhs;whnf
 revert h
 refine br ?_ ?_
 exact rz
 exact rz
theorem ok_ref01_letter {n:Nat} ⦃v0_c:Int⦄ ⦃r:Bool⦄:m_ref01_letter n v0_c=some r→CN n 74 [AV.int .u8 v0_c] []=some (bA r,[]):=by
 intro h;rcases n with _|n;cases h
 rw [m_ref01_letter] at h
 refine callN_eq' Tryz.func74 (by rfl) rfl rfl (Nat.le_of_ble_eq_true rfl) ?_
 intro call hc;conv=>lhs;whnf
 revert h
 refine br ?_ ?_
 refine br ?_ ?_
 exact rz
 refine br ?_ ?_
 refine br ?_ ?_
 exact rz
 exact rz
 exact rz
 refine br ?_ ?_
 refine br ?_ ?_
 exact rz
 exact rz
 exact rz
theorem ok_ref01_signs {n:Nat} ⦃r:(List (List UInt8))⦄:m_ref01_signs n=some r→CN n 83 [] []=some (AV.sl 1 (List.map encS r),[]):=by
 intro h;rcases n with _|n;cases h
 rw [m_ref01_signs] at h
 refine callN_eq' Tryz.func83 (by rfl) rfl rfl (Nat.le_of_ble_eq_true rfl) ?_
 intro call hc;conv=>lhs;whnf
 revert h
 exact rz
theorem ok_ref01_one {n:Nat} ⦃v0_s:(List UInt8)⦄ ⦃v1_at:Int⦄ ⦃r:(S_api_Token×Int)⦄:m_ref01_one n v0_s v1_at=some r→CN n 58 [sA v0_s,iA v1_at] []=some (AV.tup [AV.agg [iA r.1.f_Kind,sA r.1.f_Text,iA r.1.f_N,iA r.1.f_At],iA r.2],[]):=by
 intro h;rcases n with _|n;cases h
 rw [m_ref01_one] at h
 refine callN_eq' Tryz.func58 (by rfl) rfl rfl (Nat.le_of_ble_eq_true rfl) ?_
 intro call hc;conv=>lhs;whnf
 revert h
 intro h;refine bind_some2 h ?_;clear h;intro o9 ho9 h
 refine lq (σ:=Int) (τ:=Int) (ν:=(S_api_Token×Int)) 0 (fun s1 a3=>stOf 119 [(0,sA v0_s),(1,iA v1_at),(4,AV.ptr 0 0),(6,iA s1)]) (fun s1 a3=>[Ob.var 70 [iA (0),sA (([]:List UInt8)),iA (0),iA (0)]]) (fun x21 a20=>stOf 119 [(0,sA v0_s),(1,iA v1_at),(4,AV.ptr 0 0),(6,iA x21)]) (fun x21 a20=>[Ob.var 70 [iA (0),sA (([]:List UInt8)),iA (0),iA (0)]]) (fun v=>(AV.tup [AV.agg [iA v.1.f_Kind,sA v.1.f_Text,iA v.1.f_N,iA v.1.f_At],iA v.2],[])) (fun k s=>ref01_one_L0 n v0_s v1_at k s) (fun s=>rfl) o9 n v1_at (fun _=>0) ho9 ?_ ?_
 intro k2 s1 a3 K4 cont5 hK6 hcont7 h hr8
 replace h:ref01_one_L0 n v0_s v1_at (k2+1) s1=some o9:=h
 rw [ref01_one_L0] at h
 conv=>lhs;whnf
 revert h
 refine br ?_ ?_
 refine ixs ?_;intro x11
 refine ca hc (fun _ h=>ok_ref01_letter h) ?_;intro y12
 refine br ?_ ?_
 exact fun h=>cq (hcont7 (IntKind.i64.wrap (s1+1)) (fun _=>0) h)
 refine br ?_ ?_
 refine ixs ?_;intro x16
 refine ca hc (fun _ h=>ok_ref01_digit h) ?_;intro y17
 refine br ?_ ?_
 exact fun h=>cq (hcont7 (IntKind.i64.wrap (s1+1)) (fun _=>0) h)
 intro h;cases sj h
 exact kq (hr8 (fun _=>0))
 intro h;cases sj h
 exact kq (hr8 (fun _=>0))
 intro h;cases sj h
 exact kq (hr8 (fun _=>0))
 refine lrc ?_ ?_
 intro v e;subst e;cases sj h;rfl
 intro x21 a20 e;subst e
 dsimp only at h
 conv=>lhs;whnf
 revert h
 refine br ?_ ?_
 refine br ?_ ?_
 exact rz
 refine cp ?_
 exact rz
 intro h;refine bind_some2 h ?_;clear h;intro o34 ho34 h
 refine lq (σ:=(Int×Int)) (τ:=(Int×Int)) (ν:=(S_api_Token×Int)) 2 (fun (s25,s26) a28=>stOf 119 [(0,sA v0_s),(1,iA v1_at),(4,AV.ptr 0 0),(6,iA s25),(7,iA s26)]) (fun (s25,s26) a28=>[Ob.var 70 [iA (0),sA (([]:List UInt8)),iA (0),iA (0)]]) (fun (x42,x43) a41=>stOf 119 [(0,sA v0_s),(1,iA v1_at),(4,AV.ptr 0 0),(6,iA x42),(7,iA x43)]) (fun (x42,x43) a41=>[Ob.var 70 [iA (0),sA (([]:List UInt8)),iA (0),iA (0)]]) (fun v=>(AV.tup [AV.agg [iA v.1.f_Kind,sA v.1.f_Text,iA v.1.f_N,iA v.1.f_At],iA v.2],[])) (fun k s=>ref01_one_L1 n v0_s k s.1 s.2) (fun s=>rfl) o34 n (x21,0) (fun _=>0) ho34 ?_ ?_
 intro k27 ss a28 K29 cont30 hK31 hcont32 h hr33
 obtain ⟨s25,s26⟩:=ss
 replace h:ref01_one_L1 n v0_s (k27+1) s25 s26=some o34:=h
 rw [ref01_one_L1] at h
 conv=>lhs;whnf
 revert h
 refine br ?_ ?_
 refine ixs ?_;intro x36
 refine ca hc (fun _ h=>ok_ref01_digit h) ?_;intro y37
 refine br ?_ ?_
 refine ixs ?_;intro x40
 exact fun h=>cq (hcont32 (IntKind.i64.wrap (s25+1),(if 10000<(IntKind.i64.wrap ((IntKind.i64.wrap (10 * s26))+(IntKind.i64.wrap (IntKind.u8.wrap ((x40.toNat:Int) - 48))))) then 10000 else (IntKind.i64.wrap ((IntKind.i64.wrap (10 * s26))+(IntKind.i64.wrap (IntKind.u8.wrap ((x40.toNat:Int) - 48))))))) (fun _=>0) h)
 intro h;cases sj h
 exact kq (hr33 (fun _=>0))
 intro h;cases sj h
 exact kq (hr33 (fun _=>0))
 refine lrc ?_ ?_
 intro v e;subst e;cases sj h;rfl
 intro t a41 e;subst e
 obtain ⟨x42,x43⟩:=t
 dsimp only at h
 conv=>lhs;whnf
 revert h
 refine br ?_ ?_
 refine br ?_ ?_
 exact rz
 refine cp ?_
 exact rz
 refine ca hc (fun _ h=>ok_ref01_signs h) ?_;intro y47
 intro h;refine bind_some2 h ?_;clear h;intro o57 ho57 h
 refine lq (σ:=Int) (τ:=Unit) (ν:=(S_api_Token×Int)) 4 (fun s49 a51=>stOf 119 [(0,sA v0_s),(1,iA v1_at),(4,AV.ptr 0 0),(8,AV.sl 1 (List.map encS y47)),(9,iA s49)]) (fun s49 a51=>[Ob.var 70 [iA (0),sA (([]:List UInt8)),iA (0),iA (0)]]) (fun _ a65=>stOf 119 [(4,AV.ptr 0 0)]) (fun _ a65=>[Ob.var 70 [iA (0),sA (([]:List UInt8)),iA (0),iA (0)]]) (fun v=>(AV.tup [AV.agg [iA v.1.f_Kind,sA v.1.f_Text,iA v.1.f_N,iA v.1.f_At],iA v.2],[])) (fun k s=>ref01_one_L2 n v0_s v1_at y47 k s) (fun s=>rfl) o57 n 0 (fun _=>0) ho57 ?_ ?_
 intro k50 s49 a51 K52 cont53 hK54 hcont55 h hr56
 replace h:ref01_one_L2 n v0_s v1_at y47 (k50+1) s49=some o57:=h
 rw [ref01_one_L2] at h
 conv=>lhs;whnf
 revert h
 refine br ?_ ?_
 refine ix ?_;intro x59
 refine br ?_ ?_
 refine cp ?_
 refine ix ?_;intro x62
 refine br ?_ ?_
 refine ix ?_;intro x64
 intro h;cases sj h
 refine (hK54 _ _).trans ?_
 refine Eq.trans ?_ (Eq.symm (show _=some _ from hr56))
 conv=>lhs;whnf
 exact rq
 exact fun h=>cq (hcont55 (IntKind.i64.wrap (s49+1)) (fun _=>0) h)
 exact fun h=>cq (hcont55 (IntKind.i64.wrap (s49+1)) (fun _=>0) h)
 intro h;cases sj h
 exact kq (hr56 (fun _=>0))
 refine lrc ?_ ?_
 intro v e;subst e;cases sj h;rfl
 intro t a65 e;subst e
 dsimp only at h
 conv=>lhs;whnf
 revert h
 exact rz
theorem ok_ref01_Scan {n:Nat} ⦃v0_s:(List UInt8)⦄ ⦃r:((List S_api_Token)×Int×Int)⦄:m_ref01_Scan n v0_s=some r→CN n 25 [sA v0_s] []=some (AV.tup [AV.sl 4 (List.map c_api_Token r.1),iA r.2.1,iA r.2.2],[]):=by
 intro h;rcases n with _|n;cases h
 rw [m_ref01_Scan] at h
 refine callN_eq' Tryz.func25 (by rfl) rfl rfl (Nat.le_of_ble_eq_true rfl) ?_
 intro call hc;conv=>lhs;whnf
 revert h
 refine br ?_ ?_
 exact rz
 refine ca hc (fun _ h=>ok_ref01_gap h) ?_;intro y2
 intro h;refine bind_some2 h ?_;clear h;intro o13 ho13 h
 refine lq (σ:=(Int×(List S_api_Token))) (τ:=(List S_api_Token)) (ν:=((List S_api_Token)×Int×Int)) 0 (fun (s4,s5) a7=>stOf 40 [(0,sA v0_s),(5,AV.row 0 (List.length s5)),(6,iA s4)]) (fun (s4,s5) a7=>[Ob.row 70 4 (List.map c_api_Token s5)]) (fun x23 a22=>stOf 40 [(5,AV.row 0 (List.length x23))]) (fun x23 a22=>[Ob.row 70 4 (List.map c_api_Token x23)]) (fun v=>(AV.tup [AV.sl 4 (List.map c_api_Token v.1),iA v.2.1,iA v.2.2],[])) (fun k s=>ref01_Scan_L0 n v0_s k s.1 s.2) (fun s=>rfl) o13 n (y2,([]:List S_api_Token)) (fun _=>0) ho13 ?_ ?_
 intro k6 ss a7 K8 cont9 hK10 hcont11 h hr12
 obtain ⟨s4,s5⟩:=ss
 replace h:ref01_Scan_L0 n v0_s (k6+1) s4 s5=some o13:=h
 rw [ref01_Scan_L0] at h
 conv=>lhs;whnf
 revert h
 refine br ?_ ?_
 refine ca hc (fun _ h=>ok_ref01_one h) ?_;intro y15
 refine br ?_ ?_
 intro h;cases sj h
 refine (hK10 _ _).trans ?_
 refine Eq.trans ?_ (Eq.symm (show _=some _ from hr12))
 conv=>lhs;whnf
 exact rq
 refine ar (ap c_api_Token (List.map c_api_Token s5) s5 ([[iA y15.1.f_Kind,sA y15.1.f_Text,iA y15.1.f_N,iA y15.1.f_At]]) ([y15.1]:List S_api_Token)) ?_
 refine cr hc (fun _ h=>ok_ref01_gap h) ?_;intro y20
 exact fun h=>cq (hcont11 (y20,(s5++([y15.1]:List S_api_Token))) (fun _=>0) h)
 intro h;cases sj h
 exact kq (hr12 (fun _=>0))
 refine lrc ?_ ?_
 intro v e;subst e;cases sj h;rfl
 intro x23 a22 e;subst e
 dsimp only at h
 conv=>lhs;whnf
 revert h
 intro h;cases sj h
 try simp only [ls]
 exact fq (y:=some (AV.tup [AV.sl 4 (List.take (List.length x23) (List.map c_api_Token x23)),iA (0),iA (0)],[]))
theorem ok_ref01_words {n:Nat} ⦃r:(List (List UInt8))⦄:m_ref01_words n=some r→CN n 109 [] []=some (AV.sl 1 (List.map encS r),[]):=by
 intro h;rcases n with _|n;cases h
 rw [m_ref01_words] at h
 refine callN_eq' Tryz.func109 (by rfl) rfl rfl (Nat.le_of_ble_eq_true rfl) ?_
 intro call hc;conv=>lhs;whnf
 revert h
 exact rz
theorem ok_ref01_Keyword {n:Nat} ⦃v0_s:(List UInt8)⦄ ⦃r:Bool⦄:m_ref01_Keyword n v0_s=some r→CN n 75 [sA v0_s] []=some (bA r,[]):=by
 intro h;rcases n with _|n;cases h
 rw [m_ref01_Keyword] at h
 refine callN_eq' Tryz.func75 (by rfl) rfl rfl (Nat.le_of_ble_eq_true rfl) ?_
 intro call hc;conv=>lhs;whnf
 revert h
 refine ca hc (fun _ h=>ok_ref01_words h) ?_;intro y1
 intro h;refine bind_some2 h ?_;clear h;intro o11 ho11 h
 refine lq (σ:=Int) (τ:=Unit) (ν:=Bool) 0 (fun s3 a5=>stOf 18 [(0,sA v0_s),(3,AV.sl 1 (List.map encS y1)),(4,iA s3)]) (fun s3 a5=>[]) (fun _ a15=>stOf 18 []) (fun _ a15=>[]) (fun v=>(bA v,[])) (fun k s=>ref01_Keyword_L0 n v0_s y1 k s) (fun s=>rfl) o11 n 0 (fun _=>0) ho11 ?_ ?_
 intro k4 s3 a5 K6 cont7 hK8 hcont9 h hr10
 replace h:ref01_Keyword_L0 n v0_s y1 (k4+1) s3=some o11:=h
 rw [ref01_Keyword_L0] at h
 conv=>lhs;whnf
 revert h
 refine br ?_ ?_
 refine ix ?_;intro x13
 refine br ?_ ?_
 intro h;cases sj h
 refine (hK8 _ _).trans ?_
 refine Eq.trans ?_ (Eq.symm (show _=some _ from hr10))
 conv=>lhs;whnf
 exact rq
 exact fun h=>cq (hcont9 (IntKind.i64.wrap (s3+1)) (fun _=>0) h)
 intro h;cases sj h
 exact kq (hr10 (fun _=>0))
 refine lrc ?_ ?_
 intro v e;subst e;cases sj h;rfl
 intro t a15 e;subst e
 dsimp only at h
 conv=>lhs;whnf
 revert h
 exact rz
theorem ok_ref01_Name {n:Nat} ⦃v0_s:(List UInt8)⦄ ⦃r:Bool⦄:m_ref01_Name n v0_s=some r→CN n 50 [sA v0_s] []=some (bA r,[]):=by
 intro h;rcases n with _|n;cases h
 rw [m_ref01_Name] at h
 refine callN_eq' Tryz.func50 (by rfl) rfl rfl (Nat.le_of_ble_eq_true rfl) ?_
 intro call hc;conv=>lhs;whnf
 revert h
 refine br ?_ ?_
 exact rz
 refine br ?_ ?_
 exact rz
 refine ixs ?_;intro x3
 refine ca hc (fun _ h=>ok_ref01_letter h) ?_;intro y4
 refine br ?_ ?_
 refine ca hc (fun _ h=>ok_ref01_Keyword h) ?_;intro y7
 refine br ?_ ?_
 exact rz
 intro h;refine bind_some2 h ?_;clear h;intro o18 ho18 h
 refine lq (σ:=Int) (τ:=Unit) (ν:=Bool) 0 (fun s10 a12=>stOf 40 [(0,sA v0_s),(3,iA s10)]) (fun s10 a12=>[]) (fun _ a28=>stOf 40 []) (fun _ a28=>[]) (fun v=>(bA v,[])) (fun k s=>ref01_Name_L0 n v0_s k s) (fun s=>rfl) o18 n 0 (fun _=>0) ho18 ?_ ?_
 intro k11 s10 a12 K13 cont14 hK15 hcont16 h hr17
 replace h:ref01_Name_L0 n v0_s (k11+1) s10=some o18:=h
 rw [ref01_Name_L0] at h
 conv=>lhs;whnf
 revert h
 refine br ?_ ?_
 refine ixs ?_;intro x20
 refine ca hc (fun _ h=>ok_ref01_letter h) ?_;intro y21
 refine br ?_ ?_
 exact fun h=>cq (hcont16 (IntKind.i64.wrap (s10+1)) (fun _=>0) h)
 refine ixs ?_;intro x24
 refine ca hc (fun _ h=>ok_ref01_digit h) ?_;intro y25
 refine br ?_ ?_
 exact fun h=>cq (hcont16 (IntKind.i64.wrap (s10+1)) (fun _=>0) h)
 intro h;cases sj h
 refine (hK15 _ _).trans ?_
 refine Eq.trans ?_ (Eq.symm (show _=some _ from hr17))
 conv=>lhs;whnf
 exact rq
 intro h;cases sj h
 exact kq (hr17 (fun _=>0))
 refine lrc ?_ ?_
 intro v e;subst e;cases sj h;rfl
 intro t a28 e;subst e
 dsimp only at h
 conv=>lhs;whnf
 revert h
 exact rz
 exact rz
def OK_ref01_Digits (n:Nat):Prop:=∀ ⦃v0_n:Int⦄ ⦃r:(List UInt8)⦄,m_ref01_Digits n v0_n=some r→CN n 37 [iA v0_n] []=some (sA r,[])
def IH_ref01_Digits (n : Nat) : Prop := OK_ref01_Digits n
theorem st_ref01_Digits (n:Nat) (ih:IH_ref01_Digits n):OK_ref01_Digits (n+1):=by
 intro v0_n r h
 rw [m_ref01_Digits] at h
 refine callN_eq' Tryz.func37 (by rfl) rfl rfl (Nat.le_of_ble_eq_true rfl) ?_
 intro call hc;conv=>lhs;whnf
 revert h
 refine br ?_ ?_
 exact rz
 refine ca hc (fun _ h=>ih h) ?_;intro y2
 intro h
 refine chk_some2 h ?_;clear h;intro hc4 h
 refine bif_pos hc4 ?_
 try simp only [ls]
 conv=>lhs;whnf
 revert h
 exact rz
theorem all_ref01_Digits : ∀ n, IH_ref01_Digits n
  | 0 => by unfold IH_ref01_Digits OK_ref01_Digits; intros; rename_i h; exact absurd h (by intro h; cases h)
  | n + 1 => have ih := all_ref01_Digits n
    st_ref01_Digits n ih
theorem ok_ref01_Digits {n : Nat} : OK_ref01_Digits n := (all_ref01_Digits n)
end Go.Proofs.YtgelgahilfojdaaGreat
end
section
namespace Go.Proofs.YtgelgahilfojdaaGreat
set_option linter.unusedVariables false
set_option linter.unusedSimpArgs false
set_option maxRecDepth 100000
set_option maxHeartbeats 4000000
theorem ok_ref02_kids {n:Nat} ⦃v0_op:Int⦄ ⦃r:Int⦄:m_ref02_kids n v0_op=some r→CN n 119 [iA v0_op] []=some (iA r,[]):=by
 intro h;rcases n with _|n;cases h
 rw [m_ref02_kids] at h
 refine callN_eq' Tryz.func119 (by rfl) rfl rfl (Nat.le_of_ble_eq_true rfl) ?_
 intro call hc;conv=>lhs;whnf
 revert h
 refine br ?_ ?_
 refine br ?_ ?_
 exact rz
 refine br ?_ ?_
 exact rz
 refine br ?_ ?_
 refine br ?_ ?_
 exact rz
 exact rz
 exact rz
 refine br ?_ ?_
 exact rz
 refine br ?_ ?_
 refine br ?_ ?_
 exact rz
 exact rz
 exact rz
theorem ok_ref02_End {n:Nat} ⦃v0_l:(List S_api_Node)⦄ ⦃v1_i:Int⦄ ⦃r:Int⦄:m_ref02_End n v0_l v1_i=some r→CN n 105 [AV.sl 5 (List.map c_api_Node v0_l),iA v1_i] []=some (iA r,[]):=by
 intro h;rcases n with _|n;cases h
 rw [m_ref02_End] at h
 refine callN_eq' Tryz.func105 (by rfl) rfl rfl (Nat.le_of_ble_eq_true rfl) ?_
 intro call hc;conv=>lhs;whnf
 revert h
 refine br ?_ ?_
 exact rz
 intro h;refine bind_some2 h ?_;clear h;intro o11 ho11 h
 refine lq (σ:=(Int×Int)) (τ:=Unit) (ν:=Int) 0 (fun (s2,s3) a5=>stOf 33 [(0,AV.sl 5 (List.map c_api_Node v0_l)),(5,iA s2),(6,iA s3)]) (fun (s2,s3) a5=>[]) (fun _ a18=>stOf 33 []) (fun _ a18=>[]) (fun v=>(iA v,[])) (fun k s=>ref02_End_L0 n v0_l k s.1 s.2) (fun s=>rfl) o11 n (1,v1_i) (fun _=>0) ho11 ?_ ?_
 intro k4 ss a5 K6 cont7 hK8 hcont9 h hr10
 obtain ⟨s2,s3⟩:=ss
 replace h:ref02_End_L0 n v0_l (k4+1) s2 s3=some o11:=h
 rw [ref02_End_L0] at h
 conv=>lhs;whnf
 revert h
 refine br ?_ ?_
 refine ix ?_;intro x13
 refine ca hc (fun _ h=>ok_ref02_kids h) ?_;intro y14
 refine br ?_ ?_
 intro h;cases sj h
 refine (hK8 _ _).trans ?_
 refine Eq.trans ?_ (Eq.symm (show _=some _ from hr10))
 conv=>lhs;whnf
 exact rq
 refine br ?_ ?_
 intro h;cases sj h
 refine (hK8 _ _).trans ?_
 refine Eq.trans ?_ (Eq.symm (show _=some _ from hr10))
 conv=>lhs;whnf
 exact rq
 exact fun h=>cq (hcont9 (IntKind.i64.wrap ((IntKind.i64.wrap (s2 - 1))+y14),IntKind.i64.wrap (s3+1)) (fun _=>0) h)
 intro h;cases sj h
 exact kq (hr10 (fun _=>0))
 refine lrc ?_ ?_
 intro v e;subst e;cases sj h;rfl
 intro t a18 e;subst e
 dsimp only at h
 conv=>lhs;whnf
 revert h
 exact rz
def OK_ref02_deep (n:Nat):Prop:=∀ ⦃v0_l:(List S_api_Node)⦄ ⦃v1_i:Int⦄ ⦃r:Int⦄,m_ref02_deep n v0_l v1_i=some r→CN n 87 [AV.sl 5 (List.map c_api_Node v0_l),iA v1_i] []=some (iA r,[])
def IH_ref02_deep (n : Nat) : Prop := OK_ref02_deep n
theorem st_ref02_deep (n:Nat) (ih:IH_ref02_deep n):OK_ref02_deep (n+1):=by
 intro v0_l v1_i r h
 rw [m_ref02_deep] at h
 refine callN_eq' Tryz.func87 (by rfl) rfl rfl (Nat.le_of_ble_eq_true rfl) ?_
 intro call hc;conv=>lhs;whnf
 revert h
 intro h;refine bind_some2 h ?_;clear h;intro o11 ho11 h
 refine lq (σ:=(Int×Int×Int)) (τ:=Int) (ν:=Int) 0 (fun (s1,s2,s3) a5=>stOf 30 [(0,AV.sl 5 (List.map c_api_Node v0_l)),(1,iA v1_i),(5,iA s1),(6,iA s2),(7,iA s3)]) (fun (s1,s2,s3) a5=>[]) (fun x21 a20=>stOf 30 [(5,iA x21)]) (fun x21 a20=>[]) (fun v=>(iA v,[])) (fun k s=>ref02_deep_L0 n (m_ref02_deep n) v0_l v1_i k s.1 s.2.1 s.2.2) (fun s=>rfl) o11 n (0,IntKind.i64.wrap (v1_i+1),0) (fun _=>0) ho11 ?_ ?_
 intro k4 ss a5 K6 cont7 hK8 hcont9 h hr10
 obtain ⟨s1,s2,s3⟩:=ss
 replace h:ref02_deep_L0 n (m_ref02_deep n) v0_l v1_i (k4+1) s1 s2 s3=some o11:=h
 rw [ref02_deep_L0] at h
 conv=>lhs;whnf
 revert h
 refine ix ?_;intro x12
 refine ca hc (fun _ h=>ok_ref02_kids h) ?_;intro y13
 refine br ?_ ?_
 refine ca hc (fun _ h=>ih h) ?_;intro y16
 refine ca hc (fun _ h=>ok_ref02_End h) ?_;intro y18
 exact fun h=>cq (hcont9 ((if s1<(IntKind.i64.wrap (1+y16)) then (IntKind.i64.wrap (1+y16)) else s1),y18,IntKind.i64.wrap (s3+1)) (fun _=>0) h)
 intro h;cases sj h
 exact kq (hr10 (fun _=>0))
 refine lrc ?_ ?_
 intro v e;subst e;cases sj h;rfl
 intro x21 a20 e;subst e
 dsimp only at h
 conv=>lhs;whnf
 revert h
 exact rz
theorem all_ref02_deep : ∀ n, IH_ref02_deep n
  | 0 => by unfold IH_ref02_deep OK_ref02_deep; intros; rename_i h; exact absurd h (by intro h; cases h)
  | n + 1 => have ih := all_ref02_deep n
    st_ref02_deep n ih
theorem ok_ref02_deep {n : Nat} : OK_ref02_deep n := (all_ref02_deep n)
theorem ok_ref02_floors {n:Nat} ⦃r:(List (List Int))⦄:m_ref02_floors n=some r→CN n 118 [] []=some (AV.sl 1 (List.map encRow r),[]):=by
 intro h;rcases n with _|n;cases h
 rw [m_ref02_floors] at h
 refine callN_eq' Tryz.func118 (by rfl) rfl rfl (Nat.le_of_ble_eq_true rfl) ?_
 intro call hc;conv=>lhs;whnf
 revert h
 exact rz
theorem ok_ref02_Is {n:Nat} ⦃v0_l:(List S_api_Token)⦄ ⦃v1_i:Int⦄ ⦃v2_sign:(List UInt8)⦄ ⦃r:Bool⦄:m_ref02_Is n v0_l v1_i v2_sign=some r→CN n 60 [AV.sl 4 (List.map c_api_Token v0_l),iA v1_i,sA v2_sign] []=some (bA r,[]):=by
 intro h;rcases n with _|n;cases h
 rw [m_ref02_Is] at h
 refine callN_eq' Tryz.func60 (by rfl) rfl rfl (Nat.le_of_ble_eq_true rfl) ?_
 intro call hc;conv=>lhs;whnf
 revert h
 refine br ?_ ?_
 refine ix ?_;intro x2
 refine br ?_ ?_
 refine ix ?_;intro x4
 exact rz
 exact rz
 exact rz
theorem ok_ref02_Place {n:Nat} ⦃v0_l:(List S_api_Token)⦄ ⦃v1_i:Int⦄ ⦃r:Int⦄:m_ref02_Place n v0_l v1_i=some r→CN n 84 [AV.sl 4 (List.map c_api_Token v0_l),iA v1_i] []=some (iA r,[]):=by
 intro h;rcases n with _|n;cases h
 rw [m_ref02_Place] at h
 refine callN_eq' Tryz.func84 (by rfl) rfl rfl (Nat.le_of_ble_eq_true rfl) ?_
 intro call hc;conv=>lhs;whnf
 revert h
 refine br ?_ ?_
 refine ix ?_;intro x2
 exact rz
 refine br ?_ ?_
 exact rz
 refine ix ?_;intro x4
 refine ix ?_;intro x5
 exact rz
theorem ok_ref02_fail {n:Nat} ⦃v0_l:(List S_api_Token)⦄ ⦃v1_i:Int⦄ ⦃r:S_ref02_got⦄:m_ref02_fail n v0_l v1_i=some r→CN n 139 [AV.sl 4 (List.map c_api_Token v0_l),iA v1_i] []=some (AV.agg [AV.sl 5 (List.map c_api_Node r.f_l),iA r.f_to,iA r.f_e,iA r.f_at],[]):=by
 intro h;rcases n with _|n;cases h
 rw [m_ref02_fail] at h
 refine callN_eq' Tryz.func139 (by rfl) rfl rfl (Nat.le_of_ble_eq_true rfl) ?_
 intro call hc;conv=>lhs;whnf
 revert h
 refine br ?_ ?_
 refine ca hc (fun _ h=>ok_ref02_Place h) ?_;intro y2
 exact rz
 refine ca hc (fun _ h=>ok_ref02_Place h) ?_;intro y4
 exact rz
theorem ok_ref02_sign {n:Nat} ⦃v0_op:Int⦄ ⦃r:(List UInt8)⦄:m_ref02_sign n v0_op=some r→CN n 108 [iA v0_op] []=some (sA r,[]):=by
 intro h;rcases n with _|n;cases h
 rw [m_ref02_sign] at h
 refine callN_eq' Tryz.func108 (by rfl) rfl rfl (Nat.le_of_ble_eq_true rfl) ?_
 intro call hc;conv=>lhs;whnf
 revert h
 intro h
 refine bind_some2 h ?_;clear h;intro x1 hx1 h
 refine bif_pos (by first|exact idx_in hx1|(have q:=idx_in hx1;exact q)) ?_
 simp only [(show nth? ([[sA (([33]:List UInt8))],[sA (([43]:List UInt8))],[sA (([45]:List UInt8))],[sA (([42]:List UInt8))],[sA (([61,61]:List UInt8))],[sA (([33,61]:List UInt8))],[sA (([60]:List UInt8))],[sA (([60,61]:List UInt8))],[sA (([38,38]:List UInt8))],[sA (([124,124]:List UInt8))]]:List (List AV)) (IntKind.i64.wrap (v0_op - 5)).toNat=some (encS x1) from idx_nth (f:=encS) hx1),ls]
 conv=>lhs;whnf
 revert h
 exact rz
theorem ok_ref02_which {n:Nat} ⦃v0_l:(List S_api_Token)⦄ ⦃v1_i:Int⦄ ⦃v2_ops:(List Int)⦄ ⦃r:Int⦄:m_ref02_which n v0_l v1_i v2_ops=some r→CN n 117 [AV.sl 4 (List.map c_api_Token v0_l),iA v1_i,AV.sl 1 (List.map encI v2_ops)] []=some (iA r,[]):=by
 intro h;rcases n with _|n;cases h
 rw [m_ref02_which] at h
 refine callN_eq' Tryz.func117 (by rfl) rfl rfl (Nat.le_of_ble_eq_true rfl) ?_
 intro call hc;conv=>lhs;whnf
 revert h
 intro h;refine bind_some2 h ?_;clear h;intro o9 ho9 h
 refine lq (σ:=Int) (τ:=Unit) (ν:=Int) 0 (fun s1 a3=>stOf 26 [(0,AV.sl 4 (List.map c_api_Token v0_l)),(1,iA v1_i),(2,AV.sl 1 (List.map encI v2_ops)),(7,iA s1)]) (fun s1 a3=>[]) (fun _ a18=>stOf 26 []) (fun _ a18=>[]) (fun v=>(iA v,[])) (fun k s=>ref02_which_L0 n v0_l v1_i v2_ops k s) (fun s=>rfl) o9 n 0 (fun _=>0) ho9 ?_ ?_
 intro k2 s1 a3 K4 cont5 hK6 hcont7 h hr8
 replace h:ref02_which_L0 n v0_l v1_i v2_ops (k2+1) s1=some o9:=h
 rw [ref02_which_L0] at h
 conv=>lhs;whnf
 revert h
 refine br ?_ ?_
 refine ix ?_;intro x11
 refine ca hc (fun _ h=>ok_ref02_sign h) ?_;intro y12
 refine ca hc (fun _ h=>ok_ref02_Is h) ?_;intro y14
 refine br ?_ ?_
 refine ix ?_;intro x17
 intro h;cases sj h
 refine (hK6 _ _).trans ?_
 refine Eq.trans ?_ (Eq.symm (show _=some _ from hr8))
 conv=>lhs;whnf
 exact rq
 exact fun h=>cq (hcont7 (IntKind.i64.wrap (s1+1)) (fun _=>0) h)
 intro h;cases sj h
 exact kq (hr8 (fun _=>0))
 refine lrc ?_ ?_
 intro v e;subst e;cases sj h;rfl
 intro t a18 e;subst e
 dsimp only at h
 conv=>lhs;whnf
 revert h
 exact rz
def OK_ref02_floor (n:Nat):Prop:=∀ ⦃v0_l:(List S_api_Token)⦄ ⦃v1_i:Int⦄ ⦃v2_in:Int⦄ ⦃v3_n:Int⦄ ⦃r:S_ref02_got⦄,m_ref02_floor n v0_l v1_i v2_in v3_n=some r→CN n 86 [AV.sl 4 (List.map c_api_Token v0_l),iA v1_i,iA v2_in,iA v3_n] []=some (AV.agg [AV.sl 5 (List.map c_api_Node r.f_l),iA r.f_to,iA r.f_e,iA r.f_at],[])
def OK_ref02_prim (n:Nat):Prop:=∀ ⦃v0_l:(List S_api_Token)⦄ ⦃v1_i:Int⦄ ⦃v2_in:Int⦄ ⦃r:S_ref02_got⦄,m_ref02_prim n v0_l v1_i v2_in=some r→CN n 116 [AV.sl 4 (List.map c_api_Token v0_l),iA v1_i,iA v2_in] []=some (AV.agg [AV.sl 5 (List.map c_api_Node r.f_l),iA r.f_to,iA r.f_e,iA r.f_at],[])
def IH_ref02_floor (n : Nat) : Prop := OK_ref02_floor n ∧ OK_ref02_prim n
theorem st_ref02_floor (n:Nat) (ih:IH_ref02_floor n):OK_ref02_floor (n+1):=by
 intro v0_l v1_i v2_in v3_n r h
 rw [m_ref02_floor] at h
 refine callN_eq' Tryz.func86 (by rfl) rfl rfl (Nat.le_of_ble_eq_true rfl) ?_
 intro call hc;conv=>lhs;whnf
 revert h
 refine br ?_ ?_
 refine ca hc (fun _ h=>ih.2 h) ?_;intro y2
 exact rz
 refine ca hc (fun _ h=>ih.1 h) ?_;intro y4
 intro h;refine bind_some2 h ?_;clear h;intro o17 ho17 h
 refine lq (σ:=((List S_api_Node)×Int×Int×Int)) (τ:=((List S_api_Node)×Int×Int×Int)) (ν:=S_ref02_got) 0 (fun (s6,s7,s8,s9) a11=>stOf 78 [(0,AV.sl 4 (List.map c_api_Token v0_l)),(2,iA v2_in),(3,iA v3_n),(8,AV.ptr 0 0),(9,AV.ptr 1 0)]) (fun (s6,s7,s8,s9) a11=>[Ob.var 117 [AV.nils,iA (0),iA (0),iA (0)],Ob.var 117 [AV.sl 5 (List.map c_api_Node s6),iA s7,iA s8,iA s9]]) (fun (x35,x36,x37,x38) a34=>stOf 78 [(8,AV.ptr 0 0),(9,AV.ptr 1 0)]) (fun (x35,x36,x37,x38) a34=>[Ob.var 117 [AV.nils,iA (0),iA (0),iA (0)],Ob.var 117 [AV.sl 5 (List.map c_api_Node x35),iA x36,iA x37,iA x38]]) (fun v=>(AV.agg [AV.sl 5 (List.map c_api_Node v.f_l),iA v.f_to,iA v.f_e,iA v.f_at],[])) (fun k s=>ref02_floor_L0 n (m_ref02_floor n) v0_l v2_in v3_n k s.1 s.2.1 s.2.2.1 s.2.2.2) (fun s=>rfl) o17 n (y4.f_l,y4.f_to,y4.f_e,y4.f_at) (fun _=>0) ho17 ?_ ?_
 intro k10 ss a11 K12 cont13 hK14 hcont15 h hr16
 obtain ⟨s6,s7,s8,s9⟩:=ss
 replace h:ref02_floor_L0 n (m_ref02_floor n) v0_l v2_in v3_n (k10+1) s6 s7 s8 s9=some o17:=h
 rw [ref02_floor_L0] at h
 conv=>lhs;whnf
 revert h
 refine br ?_ ?_
 refine ca hc (fun _ h=>ok_ref02_floors h) ?_;intro y19
 refine ix ?_;intro x21
 refine ca hc (fun _ h=>ok_ref02_which h) ?_;intro y22
 refine br ?_ ?_
 intro h;cases sj h
 refine (hK14 _ _).trans ?_
 refine Eq.trans ?_ (Eq.symm (show _=some _ from hr16))
 conv=>lhs;whnf
 exact rq
 refine ca hc (fun _ h=>ih.1 h) ?_;intro y25
 refine br ?_ ?_
 intro h;cases sj h
 refine (hK14 _ _).trans ?_
 refine Eq.trans ?_ (Eq.symm (show _=some _ from hr16))
 conv=>lhs;whnf
 exact rq
 refine ix ?_;intro x28
 refine ar (ap c_api_Node ([[iA y22,iA (0),sA (([]:List UInt8)),sA (([]:List UInt8)),iA x28.f_At]]) ([(⟨y22,0,([]:List UInt8),([]:List UInt8),x28.f_At⟩:S_api_Node)]:List S_api_Node) (List.map c_api_Node s6) s6) ?_
 refine ar (ap c_api_Node (List.map c_api_Node (([(⟨y22,0,([]:List UInt8),([]:List UInt8),x28.f_At⟩:S_api_Node)]:List S_api_Node)++s6)) (([(⟨y22,0,([]:List UInt8),([]:List UInt8),x28.f_At⟩:S_api_Node)]:List S_api_Node)++s6) (List.map c_api_Node y25.f_l) y25.f_l) ?_
 refine br ?_ ?_
 intro h;cases sj h
 refine (hK14 _ _).trans ?_
 refine Eq.trans ?_ (Eq.symm (show _=some _ from hr16))
 conv=>lhs;whnf
 try simp only [ls]
 exact fq (y:=some (AV.agg [AV.sl 5 (List.take (List.length (((([(⟨y22,0,([]:List UInt8),([]:List UInt8),x28.f_At⟩:S_api_Node)]:List S_api_Node)++s6)++y25.f_l))) (List.map c_api_Node ((([(⟨y22,0,([]:List UInt8),([]:List UInt8),x28.f_At⟩:S_api_Node)]:List S_api_Node)++s6)++y25.f_l))),iA y25.f_to,iA (0),iA (0)],[]))
 exact fun h=>cq (hcont15 (((([(⟨y22,0,([]:List UInt8),([]:List UInt8),x28.f_At⟩:S_api_Node)]:List S_api_Node)++s6)++y25.f_l),y25.f_to,0,0) (fun _=>0) h)
 intro h;cases sj h
 exact kq (hr16 (fun _=>0))
 refine lrc ?_ ?_
 intro v e;subst e;cases sj h;rfl
 intro t a34 e;subst e
 obtain ⟨x35,x36,x37,x38⟩:=t
 dsimp only at h
 conv=>lhs;whnf
 revert h
 exact rz
theorem st_ref02_prim (n:Nat) (ih:IH_ref02_floor n):OK_ref02_prim (n+1):=by
 intro v0_l v1_i v2_in r h
 rw [m_ref02_prim] at h
 refine callN_eq' Tryz.func116 (by rfl) rfl rfl (Nat.le_of_ble_eq_true rfl) ?_
 intro call hc;conv=>lhs;whnf
 revert h
 refine br ?_ ?_
 refine ca hc (fun _ h=>ok_ref02_fail h) ?_;intro y2
 exact rz
 refine ix ?_;intro x4
 refine ca hc (fun _ h=>ok_ref02_Is h) ?_;intro y5
 refine br ?_ ?_
 refine br ?_ ?_
 exact rz
 refine ca hc (fun _ h=>ok_ref02_Is h) ?_;intro y9
 refine br ?_ ?_
 refine ca hc (fun _ h=>ih.2 h) ?_;intro y12
 refine br ?_ ?_
 refine ar (ap c_api_Node ([[iA (5),iA (0),sA (([]:List UInt8)),sA (([]:List UInt8)),iA x4.f_At]]) ([(⟨5,0,([]:List UInt8),([]:List UInt8),x4.f_At⟩:S_api_Node)]:List S_api_Node) (List.map c_api_Node y12.f_l) y12.f_l) ?_
 intro h;cases sj h
 try simp only [ls]
 exact fq (y:=some (AV.agg [AV.sl 5 (List.take (List.length ((([(⟨5,0,([]:List UInt8),([]:List UInt8),x4.f_At⟩:S_api_Node)]:List S_api_Node)++y12.f_l))) (List.map c_api_Node (([(⟨5,0,([]:List UInt8),([]:List UInt8),x4.f_At⟩:S_api_Node)]:List S_api_Node)++y12.f_l))),iA y12.f_to,iA y12.f_e,iA y12.f_at],[]))
 exact rz
 refine ca hc (fun _ h=>ok_ref02_Is h) ?_;intro y17
 refine br ?_ ?_
 refine ca hc (fun _ h=>ih.1 h) ?_;intro y20
 refine br ?_ ?_
 refine ca hc (fun _ h=>ok_ref02_Is h) ?_;intro y23
 refine br ?_ ?_
 exact rz
 refine ca hc (fun _ h=>ok_ref02_fail h) ?_;intro y26
 exact rz
 exact rz
 refine br ?_ ?_
 exact rz
 refine br ?_ ?_
 refine ca hc (fun _ h=>ok_ref02_fail h) ?_;intro y30
 exact rz
 refine ca hc (fun _ h=>ok_ref01_Name h) ?_;intro y32
 refine br ?_ ?_
 refine ca hc (fun _ h=>ok_ref02_Is h) ?_;intro y35
 refine br ?_ ?_
 refine br ?_ ?_
 refine ca hc (fun _ h=>ok_ref02_fail h) ?_;intro y39
 exact rz
 refine ix ?_;intro x41
 refine br ?_ ?_
 refine ca hc (fun _ h=>ok_ref02_fail h) ?_;intro y43
 exact rz
 refine ix ?_;intro x45
 refine ca hc (fun _ h=>ok_ref01_Name h) ?_;intro y46
 refine br ?_ ?_
 refine ix ?_;intro x49
 exact rz
 refine ca hc (fun _ h=>ok_ref02_fail h) ?_;intro y50
 exact rz
 exact rz
 refine ca hc (fun _ h=>ok_ref02_fail h) ?_;intro y52
 exact rz
 refine ca hc (fun _ h=>ok_ref02_Is h) ?_;intro y54
 refine br ?_ ?_
 refine br ?_ ?_
 exact rz
 refine ca hc (fun _ h=>ok_ref02_Is h) ?_;intro y58
 refine br ?_ ?_
 refine ca hc (fun _ h=>ih.2 h) ?_;intro y61
 refine br ?_ ?_
 refine ar (ap c_api_Node ([[iA (5),iA (0),sA (([]:List UInt8)),sA (([]:List UInt8)),iA x4.f_At]]) ([(⟨5,0,([]:List UInt8),([]:List UInt8),x4.f_At⟩:S_api_Node)]:List S_api_Node) (List.map c_api_Node y61.f_l) y61.f_l) ?_
 intro h;cases sj h
 try simp only [ls]
 exact fq (y:=some (AV.agg [AV.sl 5 (List.take (List.length ((([(⟨5,0,([]:List UInt8),([]:List UInt8),x4.f_At⟩:S_api_Node)]:List S_api_Node)++y61.f_l))) (List.map c_api_Node (([(⟨5,0,([]:List UInt8),([]:List UInt8),x4.f_At⟩:S_api_Node)]:List S_api_Node)++y61.f_l))),iA y61.f_to,iA y61.f_e,iA y61.f_at],[]))
 exact rz
 refine ca hc (fun _ h=>ok_ref02_Is h) ?_;intro y66
 refine br ?_ ?_
 refine ca hc (fun _ h=>ih.1 h) ?_;intro y69
 refine br ?_ ?_
 refine ca hc (fun _ h=>ok_ref02_Is h) ?_;intro y72
 refine br ?_ ?_
 exact rz
 refine ca hc (fun _ h=>ok_ref02_fail h) ?_;intro y75
 exact rz
 exact rz
 refine br ?_ ?_
 exact rz
 refine br ?_ ?_
 refine ca hc (fun _ h=>ok_ref02_fail h) ?_;intro y79
 exact rz
 refine ca hc (fun _ h=>ok_ref01_Name h) ?_;intro y81
 refine br ?_ ?_
 refine ca hc (fun _ h=>ok_ref02_Is h) ?_;intro y84
 refine br ?_ ?_
 refine br ?_ ?_
 refine ca hc (fun _ h=>ok_ref02_fail h) ?_;intro y88
 exact rz
 refine ix ?_;intro x90
 refine br ?_ ?_
 refine ca hc (fun _ h=>ok_ref02_fail h) ?_;intro y92
 exact rz
 refine ix ?_;intro x94
 refine ca hc (fun _ h=>ok_ref01_Name h) ?_;intro y95
 refine br ?_ ?_
 refine ix ?_;intro x98
 exact rz
 refine ca hc (fun _ h=>ok_ref02_fail h) ?_;intro y99
 exact rz
 exact rz
 refine ca hc (fun _ h=>ok_ref02_fail h) ?_;intro y101
 exact rz
 refine ca hc (fun _ h=>ok_ref02_Is h) ?_;intro y103
 refine br ?_ ?_
 refine ca hc (fun _ h=>ih.2 h) ?_;intro y106
 refine br ?_ ?_
 refine ar (ap c_api_Node ([[iA (5),iA (0),sA (([]:List UInt8)),sA (([]:List UInt8)),iA x4.f_At]]) ([(⟨5,0,([]:List UInt8),([]:List UInt8),x4.f_At⟩:S_api_Node)]:List S_api_Node) (List.map c_api_Node y106.f_l) y106.f_l) ?_
 intro h;cases sj h
 try simp only [ls]
 exact fq (y:=some (AV.agg [AV.sl 5 (List.take (List.length ((([(⟨5,0,([]:List UInt8),([]:List UInt8),x4.f_At⟩:S_api_Node)]:List S_api_Node)++y106.f_l))) (List.map c_api_Node (([(⟨5,0,([]:List UInt8),([]:List UInt8),x4.f_At⟩:S_api_Node)]:List S_api_Node)++y106.f_l))),iA y106.f_to,iA y106.f_e,iA y106.f_at],[]))
 exact rz
 refine ca hc (fun _ h=>ok_ref02_Is h) ?_;intro y111
 refine br ?_ ?_
 refine ca hc (fun _ h=>ih.1 h) ?_;intro y114
 refine br ?_ ?_
 refine ca hc (fun _ h=>ok_ref02_Is h) ?_;intro y117
 refine br ?_ ?_
 exact rz
 refine ca hc (fun _ h=>ok_ref02_fail h) ?_;intro y120
 exact rz
 exact rz
 refine br ?_ ?_
 exact rz
 refine br ?_ ?_
 refine ca hc (fun _ h=>ok_ref02_fail h) ?_;intro y124
 exact rz
 refine ca hc (fun _ h=>ok_ref01_Name h) ?_;intro y126
 refine br ?_ ?_
 refine ca hc (fun _ h=>ok_ref02_Is h) ?_;intro y129
 refine br ?_ ?_
 refine br ?_ ?_
 refine ca hc (fun _ h=>ok_ref02_fail h) ?_;intro y133
 exact rz
 refine ix ?_;intro x135
 refine br ?_ ?_
 refine ca hc (fun _ h=>ok_ref02_fail h) ?_;intro y137
 exact rz
 refine ix ?_;intro x139
 refine ca hc (fun _ h=>ok_ref01_Name h) ?_;intro y140
 refine br ?_ ?_
 refine ix ?_;intro x143
 exact rz
 refine ca hc (fun _ h=>ok_ref02_fail h) ?_;intro y144
 exact rz
 exact rz
 refine ca hc (fun _ h=>ok_ref02_fail h) ?_;intro y146
 exact rz
theorem all_ref02_floor : ∀ n, IH_ref02_floor n
  | 0 => ⟨by unfold OK_ref02_floor; intros; rename_i h; exact absurd h (by intro h; cases h), by unfold OK_ref02_prim; intros; rename_i h; exact absurd h (by intro h; cases h)⟩
  | n + 1 => have ih := all_ref02_floor n
    ⟨st_ref02_floor n ih, st_ref02_prim n ih⟩
theorem ok_ref02_floor {n : Nat} : OK_ref02_floor n := (all_ref02_floor n).1
theorem ok_ref02_Parse {n:Nat} ⦃v0_l:(List S_api_Token)⦄ ⦃v1_i:Int⦄ ⦃r:((List S_api_Node)×Int×Int×Int)⦄:m_ref02_Parse n v0_l v1_i=some r→CN n 64 [AV.sl 4 (List.map c_api_Token v0_l),iA v1_i] []=some (AV.tup [AV.sl 5 (List.map c_api_Node r.1),iA r.2.1,iA r.2.2.1,iA r.2.2.2],[]):=by
 intro h;rcases n with _|n;cases h
 rw [m_ref02_Parse] at h
 refine callN_eq' Tryz.func64 (by rfl) rfl rfl (Nat.le_of_ble_eq_true rfl) ?_
 intro call hc;conv=>lhs;whnf
 revert h
 refine br ?_ ?_
 exact rz
 refine ca hc (fun _ h=>ok_ref02_floor h) ?_;intro y2
 refine br ?_ ?_
 exact rz
 refine ca hc (fun _ h=>ok_ref02_deep h) ?_;intro y5
 refine br ?_ ?_
 refine ix ?_;intro x8
 exact rz
 refine br ?_ ?_
 refine ix ?_;intro x10
 exact rz
 exact rz
theorem ok_ref02_Names {n:Nat} ⦃v0_l:(List S_api_Node)⦄ ⦃r:(List S_api_Node)⦄:m_ref02_Names n v0_l=some r→CN n 80 [AV.sl 5 (List.map c_api_Node v0_l)] []=some (AV.sl 5 (List.map c_api_Node r),[]):=by
 intro h;rcases n with _|n;cases h
 rw [m_ref02_Names] at h
 refine callN_eq' Tryz.func80 (by rfl) rfl rfl (Nat.le_of_ble_eq_true rfl) ?_
 intro call hc;conv=>lhs;whnf
 revert h
 intro h;refine bind_some2 h ?_;clear h;intro o10 ho10 h
 refine lq (σ:=(Int×(List S_api_Node))) (τ:=(List S_api_Node)) (ν:=(List S_api_Node)) 0 (fun (s1,s2) a4=>stOf 41 [(0,AV.sl 5 (List.map c_api_Node v0_l)),(3,AV.row 0 (List.length s2)),(4,iA s1)]) (fun (s1,s2) a4=>[Ob.row 85 5 (List.map c_api_Node s2)]) (fun x28 a27=>stOf 41 [(3,AV.row 0 (List.length x28))]) (fun x28 a27=>[Ob.row 85 5 (List.map c_api_Node x28)]) (fun v=>(AV.sl 5 (List.map c_api_Node v),[])) (fun k s=>ref02_Names_L0 n v0_l k s.1 s.2) (fun s=>rfl) o10 n (0,([]:List S_api_Node)) (fun _=>0) ho10 ?_ ?_
 intro k3 ss a4 K5 cont6 hK7 hcont8 h hr9
 obtain ⟨s1,s2⟩:=ss
 replace h:ref02_Names_L0 n v0_l (k3+1) s1 s2=some o10:=h
 rw [ref02_Names_L0] at h
 conv=>lhs;whnf
 revert h
 refine br ?_ ?_
 refine ix ?_;intro x12
 refine br ?_ ?_
 refine ix ?_;intro x14
 refine ar (ap c_api_Node (List.map c_api_Node s2) s2 ([[iA x14.f_Op,iA x14.f_N,sA x14.f_Name,sA x14.f_In,iA x14.f_At]]) ([x14]:List S_api_Node)) ?_
 exact fun h=>cq (hcont8 (IntKind.i64.wrap (s1+1),(s2++([x14]:List S_api_Node))) (fun _=>0) h)
 refine ix ?_;intro x17
 refine br ?_ ?_
 refine ix ?_;intro x19
 refine ar (ap c_api_Node (List.map c_api_Node s2) s2 ([[iA x19.f_Op,iA x19.f_N,sA x19.f_Name,sA x19.f_In,iA x19.f_At]]) ([x19]:List S_api_Node)) ?_
 exact fun h=>cq (hcont8 (IntKind.i64.wrap (s1+1),(s2++([x19]:List S_api_Node))) (fun _=>0) h)
 refine ix ?_;intro x22
 refine br ?_ ?_
 refine ix ?_;intro x24
 refine ar (ap c_api_Node (List.map c_api_Node s2) s2 ([[iA x24.f_Op,iA x24.f_N,sA x24.f_Name,sA x24.f_In,iA x24.f_At]]) ([x24]:List S_api_Node)) ?_
 exact fun h=>cq (hcont8 (IntKind.i64.wrap (s1+1),(s2++([x24]:List S_api_Node))) (fun _=>0) h)
 exact fun h=>cq (hcont8 (IntKind.i64.wrap (s1+1),s2) (fun _=>0) h)
 intro h;cases sj h
 exact kq (hr9 (fun _=>0))
 refine lrc ?_ ?_
 intro v e;subst e;cases sj h;rfl
 intro x28 a27 e;subst e
 dsimp only at h
 conv=>lhs;whnf
 revert h
 intro h;obtain rfl:=sj h
 try simp only [ls]
 exact fq (y:=some (AV.sl 5 (List.take (List.length x28) (List.map c_api_Node x28)),[]))
theorem ok_ref02_node {n:Nat} ⦃v0_x:S_api_Node⦄ ⦃r:Bool⦄:m_ref02_node n v0_x=some r→CN n 106 [AV.agg [iA v0_x.f_Op,iA v0_x.f_N,sA v0_x.f_Name,sA v0_x.f_In,iA v0_x.f_At]] []=some (bA r,[]):=by
 intro h;rcases n with _|n;cases h
 rw [m_ref02_node] at h
 refine callN_eq' Tryz.func106 (by rfl) rfl rfl (Nat.le_of_ble_eq_true rfl) ?_
 intro call hc;conv=>lhs;whnf
 revert h
 refine br ?_ ?_
 exact rz
 refine br ?_ ?_
 refine br ?_ ?_
 refine br ?_ ?_
 refine br ?_ ?_
 exact rz
 exact rz
 exact rz
 exact rz
 refine br ?_ ?_
 refine br ?_ ?_
 refine ca hc (fun _ h=>ok_ref01_Name h) ?_;intro y8
 refine br ?_ ?_
 exact rz
 exact rz
 exact rz
 refine br ?_ ?_
 refine br ?_ ?_
 refine ca hc (fun _ h=>ok_ref01_Name h) ?_;intro y13
 refine br ?_ ?_
 exact rz
 exact rz
 exact rz
 refine br ?_ ?_
 refine br ?_ ?_
 refine ca hc (fun _ h=>ok_ref01_Name h) ?_;intro y18
 refine br ?_ ?_
 refine ca hc (fun _ h=>ok_ref01_Name h) ?_;intro y21
 exact rz
 exact rz
 exact rz
 refine br ?_ ?_
 refine br ?_ ?_
 exact rz
 exact rz
 exact rz
theorem ok_ref02_Right {n:Nat} ⦃v0_l:(List S_api_Node)⦄ ⦃r:Bool⦄:m_ref02_Right n v0_l=some r→CN n 72 [AV.sl 5 (List.map c_api_Node v0_l)] []=some (bA r,[]):=by
 intro h;rcases n with _|n;cases h
 rw [m_ref02_Right] at h
 refine callN_eq' Tryz.func72 (by rfl) rfl rfl (Nat.le_of_ble_eq_true rfl) ?_
 intro call hc;conv=>lhs;whnf
 revert h
 refine br ?_ ?_
 exact rz
 refine br ?_ ?_
 exact rz
 refine ca hc (fun _ h=>ok_ref02_End h) ?_;intro y3
 refine br ?_ ?_
 exact rz
 intro h;refine bind_some2 h ?_;clear h;intro o14 ho14 h
 refine lq (σ:=Int) (τ:=Unit) (ν:=Bool) 0 (fun s6 a8=>stOf 34 [(0,AV.sl 5 (List.map c_api_Node v0_l)),(3,iA s6)]) (fun s6 a8=>[]) (fun _ a20=>stOf 34 [(0,AV.sl 5 (List.map c_api_Node v0_l))]) (fun _ a20=>[]) (fun v=>(bA v,[])) (fun k s=>ref02_Right_L0 n v0_l k s) (fun s=>rfl) o14 n 0 (fun _=>0) ho14 ?_ ?_
 intro k7 s6 a8 K9 cont10 hK11 hcont12 h hr13
 replace h:ref02_Right_L0 n v0_l (k7+1) s6=some o14:=h
 rw [ref02_Right_L0] at h
 conv=>lhs;whnf
 revert h
 refine br ?_ ?_
 refine ix ?_;intro x16
 refine ca hc (fun _ h=>ok_ref02_node h) ?_;intro y17
 refine br ?_ ?_
 exact fun h=>cq (hcont12 (IntKind.i64.wrap (s6+1)) (fun _=>0) h)
 intro h;cases sj h
 refine (hK11 _ _).trans ?_
 refine Eq.trans ?_ (Eq.symm (show _=some _ from hr13))
 conv=>lhs;whnf
 exact rq
 intro h;cases sj h
 exact kq (hr13 (fun _=>0))
 refine lrc ?_ ?_
 intro v e;subst e;cases sj h;rfl
 intro t a20 e;subst e
 dsimp only at h
 conv=>lhs;whnf
 revert h
 refine ca hc (fun _ h=>ok_ref02_deep h) ?_;intro y21
 exact rz
theorem ok_ref02_Same {n:Nat} ⦃v0_a:(List S_api_Node)⦄ ⦃v1_b:(List S_api_Node)⦄ ⦃v2_places:Bool⦄ ⦃r:Bool⦄:m_ref02_Same n v0_a v1_b v2_places=some r→CN n 36 [AV.sl 5 (List.map c_api_Node v0_a),AV.sl 5 (List.map c_api_Node v1_b),bA v2_places] []=some (bA r,[]):=by
 intro h;rcases n with _|n;cases h
 rw [m_ref02_Same] at h
 refine callN_eq' Tryz.func36 (by rfl) rfl rfl (Nat.le_of_ble_eq_true rfl) ?_
 intro call hc;conv=>lhs;whnf
 revert h
 refine br ?_ ?_
 exact rz
 intro h;refine bind_some2 h ?_;clear h;intro o11 ho11 h
 refine lq (σ:=(Bool×Int)) (τ:=Unit) (ν:=Bool) 0 (fun (s2,s3) a5=>stOf 85 [(0,AV.sl 5 (List.map c_api_Node v0_a)),(1,AV.sl 5 (List.map c_api_Node v1_b)),(2,bA s2),(7,iA s3)]) (fun (s2,s3) a5=>[]) (fun _ a29=>stOf 85 []) (fun _ a29=>[]) (fun v=>(bA v,[])) (fun k s=>ref02_Same_L0 n v0_a v1_b k s.1 s.2) (fun s=>rfl) o11 n (v2_places,0) (fun _=>0) ho11 ?_ ?_
 intro k4 ss a5 K6 cont7 hK8 hcont9 h hr10
 obtain ⟨s2,s3⟩:=ss
 replace h:ref02_Same_L0 n v0_a v1_b (k4+1) s2 s3=some o11:=h
 rw [ref02_Same_L0] at h
 conv=>lhs;whnf
 revert h
 refine br ?_ ?_
 refine ix ?_;intro x13
 refine ix ?_;intro x14
 refine br ?_ ?_
 intro h;cases sj h
 refine (hK8 _ _).trans ?_
 refine Eq.trans ?_ (Eq.symm (show _=some _ from hr10))
 conv=>lhs;whnf
 exact rq
 refine ix ?_;intro x16
 refine ix ?_;intro x17
 refine br ?_ ?_
 intro h;cases sj h
 refine (hK8 _ _).trans ?_
 refine Eq.trans ?_ (Eq.symm (show _=some _ from hr10))
 conv=>lhs;whnf
 exact rq
 refine ix ?_;intro x19
 refine ix ?_;intro x20
 refine br ?_ ?_
 refine ix ?_;intro x22
 refine ix ?_;intro x23
 refine br ?_ ?_
 refine br ?_ ?_
 refine ix ?_;intro x26
 refine ix ?_;intro x27
 refine br ?_ ?_
 intro h;cases sj h
 refine (hK8 _ _).trans ?_
 refine Eq.trans ?_ (Eq.symm (show _=some _ from hr10))
 conv=>lhs;whnf
 exact rq
 exact fun h=>cq (hcont9 (true,IntKind.i64.wrap (s3+1)) (fun _=>0) h)
 exact fun h=>cq (hcont9 (false,IntKind.i64.wrap (s3+1)) (fun _=>0) h)
 intro h;cases sj h
 refine (hK8 _ _).trans ?_
 refine Eq.trans ?_ (Eq.symm (show _=some _ from hr10))
 conv=>lhs;whnf
 exact rq
 intro h;cases sj h
 refine (hK8 _ _).trans ?_
 refine Eq.trans ?_ (Eq.symm (show _=some _ from hr10))
 conv=>lhs;whnf
 exact rq
 intro h;cases sj h
 exact kq (hr10 (fun _=>0))
 refine lrc ?_ ?_
 intro v e;subst e;cases sj h;rfl
 intro t a29 e;subst e
 dsimp only at h
 conv=>lhs;whnf
 revert h
 exact rz
def OK_ref02_operand (n:Nat):Prop:=∀ ⦃v0_l:(List S_api_Node)⦄ ⦃v1_i:Int⦄ ⦃r:(List UInt8)⦄,m_ref02_operand n v0_l v1_i=some r→CN n 107 [AV.sl 5 (List.map c_api_Node v0_l),iA v1_i] []=some (sA r,[])
def OK_ref02_show (n:Nat):Prop:=∀ ⦃v0_l:(List S_api_Node)⦄ ⦃v1_i:Int⦄ ⦃r:(List UInt8)⦄,m_ref02_show n v0_l v1_i=some r→CN n 73 [AV.sl 5 (List.map c_api_Node v0_l),iA v1_i] []=some (sA r,[])
def IH_ref02_operand (n : Nat) : Prop := OK_ref02_operand n ∧ OK_ref02_show n
theorem st_ref02_operand (n:Nat) (ih:IH_ref02_operand n):OK_ref02_operand (n+1):=by
 intro v0_l v1_i r h
 rw [m_ref02_operand] at h
 refine callN_eq' Tryz.func107 (by rfl) rfl rfl (Nat.le_of_ble_eq_true rfl) ?_
 intro call hc;conv=>lhs;whnf
 revert h
 refine ca hc (fun _ h=>ih.2 h) ?_;intro y1
 refine ix ?_;intro x3
 refine ca hc (fun _ h=>ok_ref02_kids h) ?_;intro y4
 refine br ?_ ?_
 intro h
 refine chk_some2 h ?_;clear h;intro hc7 h
 refine bif_pos hc7 ?_
 try simp only [ls]
 conv=>lhs;whnf
 revert h
 intro h
 refine chk_some2 h ?_;clear h;intro hc8 h
 refine bif_pos hc8 ?_
 try simp only [ls]
 conv=>lhs;whnf
 revert h
 exact rz
 exact rz
theorem st_ref02_show (n:Nat) (ih:IH_ref02_operand n):OK_ref02_show (n+1):=by
 intro v0_l v1_i r h
 rw [m_ref02_show] at h
 refine callN_eq' Tryz.func73 (by rfl) rfl rfl (Nat.le_of_ble_eq_true rfl) ?_
 intro call hc;conv=>lhs;whnf
 revert h
 refine ix ?_;intro x1
 refine br ?_ ?_
 refine ca hc (fun _ h=>ok_ref01_Digits h) ?_;intro y3
 exact rz
 refine br ?_ ?_
 exact rz
 refine br ?_ ?_
 exact rz
 refine br ?_ ?_
 intro h
 refine chk_some2 h ?_;clear h;intro hc8 h
 refine bif_pos hc8 ?_
 try simp only [ls]
 conv=>lhs;whnf
 revert h
 intro h
 refine chk_some2 h ?_;clear h;intro hc9 h
 refine bif_pos hc9 ?_
 try simp only [ls]
 conv=>lhs;whnf
 revert h
 exact rz
 refine br ?_ ?_
 refine ca hc (fun _ h=>ih.1 h) ?_;intro y11
 intro h
 refine chk_some2 h ?_;clear h;intro hc13 h
 refine bif_pos hc13 ?_
 try simp only [ls]
 conv=>lhs;whnf
 revert h
 exact rz
 refine ca hc (fun _ h=>ih.1 h) ?_;intro y14
 intro h
 refine chk_some2 h ?_;clear h;intro hc16 h
 refine bif_pos hc16 ?_
 try simp only [ls]
 conv=>lhs;whnf
 revert h
 refine ca hc (fun _ h=>ok_ref02_sign h) ?_;intro y17
 intro h
 refine chk_some2 h ?_;clear h;intro hc19 h
 refine bif_pos hc19 ?_
 try simp only [ls]
 conv=>lhs;whnf
 revert h
 intro h
 refine chk_some2 h ?_;clear h;intro hc20 h
 refine bif_pos hc20 ?_
 try simp only [ls]
 conv=>lhs;whnf
 revert h
 refine ca hc (fun _ h=>ok_ref02_End h) ?_;intro y21
 refine ca hc (fun _ h=>ih.1 h) ?_;intro y23
 intro h
 refine chk_some2 h ?_;clear h;intro hc25 h
 refine bif_pos hc25 ?_
 try simp only [ls]
 conv=>lhs;whnf
 revert h
 exact rz
theorem all_ref02_operand : ∀ n, IH_ref02_operand n
  | 0 => ⟨by unfold OK_ref02_operand; intros; rename_i h; exact absurd h (by intro h; cases h), by unfold OK_ref02_show; intros; rename_i h; exact absurd h (by intro h; cases h)⟩
  | n + 1 => have ih := all_ref02_operand n
    ⟨st_ref02_operand n ih, st_ref02_show n ih⟩
theorem ok_ref02_show {n : Nat} : OK_ref02_show n := (all_ref02_operand n).2
theorem ok_ref02_Show {n:Nat} ⦃v0_l:(List S_api_Node)⦄ ⦃r:(List UInt8)⦄:m_ref02_Show n v0_l=some r→CN n 43 [AV.sl 5 (List.map c_api_Node v0_l)] []=some (sA r,[]):=by
 intro h;rcases n with _|n;cases h
 rw [m_ref02_Show] at h
 refine callN_eq' Tryz.func43 (by rfl) rfl rfl (Nat.le_of_ble_eq_true rfl) ?_
 intro call hc;conv=>lhs;whnf
 revert h
 refine ca hc (fun _ h=>ok_ref02_Right h) ?_;intro y1
 refine br ?_ ?_
 refine ca hc (fun _ h=>ok_ref02_show h) ?_;intro y4
 exact rz
 exact rz
end Go.Proofs.YtgelgahilfojdaaGreat
end
