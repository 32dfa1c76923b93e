/- Parts of the proofs: what they lean on. Conditions: none. -/
import Derived.Test.YtpnhafdimkmbbaaGreatLegalLessP1
section
namespace Go.Proofs.YtpnhafdimkmbbaaGreat
set_option linter.unusedVariables false
set_option linter.unusedSimpArgs false
set_option maxRecDepth 10000
theorem whole_L (l : List St) (hl : l.length < 1000000) : ∀ (m i j n k : Nat), m ≤ 1000001 → i ≤ j → j ≤ l.length → j - i < m → 3 * m + 10 ≤ n → m ≤ k →
    ref03_whole_L0 n (m_ref03_whole n) l (j : Int) k (i : Int) = some (match dF m (seg l i j) with | some _ => .out () | none => .ret false) := by
  intro m
  induction m with
  | zero => intro i j n k _ _ _ h; omega
  | succ m ih =>
    intro i j n k hmm hij hj hm hn hk
    obtain ⟨k, rfl⟩ : ∃ q, k = q + 1 := ⟨k - 1, by omega⟩
    by_cases c : i < j
    · rw [seg_cons c hj, dF, ref03_whole_L0, bif_decide (by omega), idx_get (show i < l.length by omega), Option.bind_some]
      generalize l[i]'(by omega) = x at *
      have hw : IntKind.i64.wrap (IntKind.i64.wrap ((j : Int) - (i : Int)) - 1) = ((j - i - 1 : Nat) : Int) := by
        rw [wrap64 (show -9223372036854775808 ≤ (j : Int) - (i : Int) ∧ _ by omega), wrap64 (by omega)]; omega
      rw [seg_len hj, hw]
      by_cases h1 : x.f_Body < 0
      · rw [bif_decide h1, if_neg (by omega)]
      rw [bif_not h1]
      by_cases h2 : x.f_Else < 0
      · rw [bif_decide h2, if_neg (by omega)]
      rw [bif_not h2]
      by_cases h3 : ((j - i - 1 : Nat) : Int) < x.f_Body
      · rw [bif_decide h3, if_neg (by omega)]
      rw [bif_not h3, wrap64 (show -9223372036854775808 ≤ ((j - i - 1 : Nat) : Int) - x.f_Body ∧ _ by omega)]
      by_cases h4 : ((j - i - 1 : Nat) : Int) - x.f_Body < x.f_Else
      · rw [bif_decide h4, if_neg (by omega)]
      rw [bif_not h4, if_pos ⟨by omega, by omega, by omega⟩]
      obtain ⟨B, hB⟩ : ∃ B : Nat, x.f_Body = B := ⟨x.f_Body.toNat, by omega⟩
      obtain ⟨E, hE⟩ : ∃ E : Nat, x.f_Else = E := ⟨x.f_Else.toNat, by omega⟩
      rw [hB] at h3
      rw [hB, hE] at h4 ⊢
      have w1 : IntKind.i64.wrap (IntKind.i64.wrap ((i : Int) + 1) + (B : Int)) = ((i + 1 + B : Nat) : Int) := by
        rw [wrap64 (show -9223372036854775808 ≤ (i : Int) + 1 ∧ _ by omega), wrap64 (by omega)]; omega
      have w2 : IntKind.i64.wrap (((i + 1 + B : Nat) : Int) + (E : Int)) = ((i + 1 + B + E : Nat) : Int) := by rw [wrap64 (by omega)]; omega
      rw [w1, w2, show IntKind.i64.wrap ((i : Int) + 1) = ((i + 1 : Nat) : Int) by rw [wrap64 (by omega)]; omega]
      simp only [Int.toNat_natCast]
      rw [seg_take (by omega), seg_drop, seg_take (by omega), seg_drop]
      obtain ⟨n, rfl⟩ : ∃ q, n = q + 3 := ⟨n - 3, by omega⟩
      have dep : ∀ p q : Nat, p ≤ q → q ≤ j → i < p → m_ref03_whole (n + 3) l (p : Int) (q : Int) = some (dF m (seg l p q)).isSome := by
        intro p q hp hq hi
        have := ih p q (n + 2) (n + 2) (by omega) hp (by omega) (by omega) (by omega) (by omega)
        rw [m_ref03_whole, this]
        cases dF m (seg l p q) <;> rfl
      rw [dep (i + 1) (i + 1 + B) (by omega) (by omega) (by omega), dep (i + 1 + B) (i + 1 + B + E) (by omega) (by omega) (by omega), ih (i + 1 + B + E) j (n + 3) k (by omega) (by omega) hj (by omega) (by omega) (by omega), show i + 1 + (B + E) = i + 1 + B + E by omega]
      cases dF m (seg l (i + 1) (i + 1 + B)) <;> cases dF m (seg l (i + 1 + B) (i + 1 + B + E)) <;> cases dF m (seg l (i + 1 + B + E) j) <;> rfl
    · rw [seg_none (by omega), dF, ref03_whole_L0, bif_not (by omega)]
theorem whole_m (l : List St) (hl : l.length < 1000) {n : Nat} (hn : 4000 ≤ n) : m_ref03_whole n l 0 ((l.length : Nat) : Int) = some (dF (l.length + 1) l).isSome := by
  obtain ⟨n, rfl⟩ : ∃ q, n = q + 1 := ⟨n - 1, by omega⟩
  have := whole_L l (by omega) (l.length + 1) 0 l.length n n (by omega) (by omega) (by omega) (by omega) (by omega) (by omega)
  rw [show ((0 : Nat) : Int) = 0 from rfl, show seg l 0 l.length = l by unfold seg; rw [List.take_length, List.drop_zero]] at this
  rw [m_ref03_whole, this]
  cases dF (l.length + 1) l <;> rfl
def SF.tops : SF → Nat → List Int
  | .nil, _ => []
  | .cons x a b r, i => (i : Int) :: r.tops (i + 1 + a.flat.length + b.flat.length)
theorem tops_L (l : List St) (hl : l.length < 1000) (n : Nat) : ∀ (F : SF) (pre post : List St) (k : Nat) (out : List Int), F.wf → l = pre ++ (F.flat ++ post) → out.length ≤ pre.length → F.flat.length < k →
    ref03_tops_L0 n l ((pre.length + F.flat.length : Nat) : Int) k (pre.length : Int) out = some (.out (out ++ F.tops pre.length)) := by
  intro F
  induction F with
  | nil =>
    intro pre post k out _ _ _ hk
    obtain ⟨k, rfl⟩ : ∃ q, k = q + 1 := ⟨k - 1, by omega⟩
    rw [ref03_tops_L0, bif_not (by simp [SF.flat])]
    simp [SF.tops]
  | cons x a b r iha ihb ihr =>
    intro pre post k out hw he ho hk
    obtain ⟨h1, h2, ha, hb, hr⟩ := hw
    have hll : pre.length + (a.flat.length + b.flat.length + r.flat.length + 1) + post.length = l.length := by rw [he]; simp only [SF.flat, List.length_append, List.length_cons]; omega
    rw [SF.flat, List.length_cons, List.length_append, List.length_append] at hk
    obtain ⟨k, rfl⟩ : ∃ q, k = q + 1 := ⟨k - 1, by omega⟩
    have hx : l[pre.length]? = some x := by rw [he, SF.flat, List.getElem?_append_right (by omega)]; simp
    rw [ref03_tops_L0, bif_decide (by simp [SF.flat]; omega), bif_decide (by omega), idx_some hx, Option.bind_some, Option.bind_some, h1, h2]
    have w1 : IntKind.i64.wrap (IntKind.i64.wrap (IntKind.i64.wrap ((pre.length : Int) + 1) + ((a.flat.length : Nat) : Int)) + ((b.flat.length : Nat) : Int)) = ((pre ++ x :: (a.flat ++ b.flat)).length : Int) := by
      rw [wrap64 (show -9223372036854775808 ≤ (pre.length : Int) + 1 ∧ _ by omega), wrap64 (show -9223372036854775808 ≤ (pre.length : Int) + 1 + ((a.flat.length : Nat) : Int) ∧ _ by omega), wrap64 (by omega)]
      simp only [List.length_append, List.length_cons]; omega
    have := ihr (pre ++ x :: (a.flat ++ b.flat)) post k (out ++ [(pre.length : Int)]) hr (by rw [he]; simp [SF.flat]) (by simp; omega) (by omega)
    rw [w1, show (((SF.cons x a b r).flat.length : Nat)) = 1 + a.flat.length + b.flat.length + r.flat.length by simp [SF.flat]; omega]
    rw [show (pre ++ x :: (a.flat ++ b.flat)).length + r.flat.length = pre.length + (1 + a.flat.length + b.flat.length + r.flat.length) by simp; omega] at this
    rw [this, SF.tops, List.append_assoc, show (pre ++ x :: (a.flat ++ b.flat)).length = pre.length + 1 + a.flat.length + b.flat.length by simp; omega]
    rfl
theorem block_d (n : Nat) (k : Int) : m_ref03_block (n + 1) k = some (blockK k) := by
  rw [m_ref03_block]; unfold blockK
  cases k == 10 <;> cases k == 11 <;> cases k == 12 <;> rfl
theorem deep_L (l : List St) (hl : l.length < 1000) : ∀ (F : SF) (pre post : List St) (n k d : Nat) (T : List Int), F.wf → l = pre ++ (F.flat ++ post) → T.length ≤ pre.length → F.flat.length < k → 2 * F.flat.length + 1010 ≤ n → d ≤ 1000 →
    F.dep ≤ F.flat.length ∧ ref03_deep_L0 n (m_ref03_deep n) l (T ++ F.tops pre.length) k (d : Int) (T.length : Int) = some (.out ((max d F.dep : Nat) : Int)) := by
  intro F
  induction F with
  | nil =>
    intro pre post n k d T _ _ _ hk _ _
    obtain ⟨k, rfl⟩ : ∃ q, k = q + 1 := ⟨k - 1, by omega⟩
    rw [ref03_deep_L0, bif_not (by simp [SF.tops])]
    simp [SF.dep]
  | cons x a b r iha ihb ihr =>
    intro pre post n k d T hw he hT hk hn hd
    obtain ⟨h1, h2, ha, hb, hr⟩ := hw
    have hll : pre.length + (a.flat.length + b.flat.length + r.flat.length + 1) + post.length = l.length := by rw [he]; simp only [SF.flat, List.length_append, List.length_cons]; omega
    rw [SF.flat, List.length_cons, List.length_append, List.length_append] at hk hn
    obtain ⟨k, rfl⟩ : ∃ q, k = q + 1 := ⟨k - 1, by omega⟩
    obtain ⟨n, rfl⟩ : ∃ q, n = q + 2 := ⟨n - 2, by omega⟩
    have hx : l[pre.length]? = some x := by rw [he, SF.flat, List.getElem?_append_right (by omega)]; simp
    have ht : (T ++ (SF.cons x a b r).tops pre.length)[T.length]? = some (pre.length : Int) := by rw [List.getElem?_append_right (Nat.le_refl _)]; simp [SF.tops]
    rw [ref03_deep_L0, bif_decide (by simp [SF.tops]; omega), idx_some ht, Option.bind_some, idx_some hx, Option.bind_some, block_d, Option.bind_some]
    have dp : ∀ (G : SF) (q : List St) (w : List St), (∀ (n k d : Nat) (T : List Int), T.length ≤ q.length → G.flat.length < k → 2 * G.flat.length + 1010 ≤ n → d ≤ 1000 → G.dep ≤ G.flat.length ∧ ref03_deep_L0 n (m_ref03_deep n) l (T ++ G.tops q.length) k (d : Int) (T.length : Int) = some (.out ((max d G.dep : Nat) : Int))) → G.wf → l = q ++ (G.flat ++ w) → 2 * G.flat.length + 1012 ≤ n + 2 → m_ref03_deep (n + 2) l (q.length : Int) ((q.length + G.flat.length : Nat) : Int) = some (G.dep : Int) := by
      intro G q w hG hGw hq hnn
      have hg : G.flat.length ≤ l.length := by rw [hq]; simp; omega
      have t1 := tops_L l hl n G q w n [] hGw hq (by simp) (by omega)
      have t2 := (hG (n + 1) (n + 1) 0 [] (by simp) (by omega) (by omega) (by omega)).2
      rw [List.nil_append] at t1 t2
      rw [m_ref03_deep, m_ref03_tops, t1, Option.bind_some, Option.bind_some]
      rw [show (([] : List Int).length : Int) = 0 from rfl, show ((0 : Nat) : Int) = 0 from rfl] at t2
      rw [t2, Nat.zero_max]; rfl
    have ea : l = (pre ++ [x]) ++ (a.flat ++ (b.flat ++ r.flat ++ post)) := by rw [he]; simp [SF.flat]
    have eb : l = (pre ++ x :: a.flat) ++ (b.flat ++ (r.flat ++ post)) := by rw [he]; simp [SF.flat]
    have da := dp a (pre ++ [x]) _ (fun n k d T h1 h2 h3 h4 => iha (pre ++ [x]) _ n k d T ha ea h1 h2 h3 h4) ha ea (by omega)
    have db := dp b (pre ++ x :: a.flat) _ (fun n k d T h1 h2 h3 h4 => ihb (pre ++ x :: a.flat) _ n k d T hb eb h1 h2 h3 h4) hb eb (by omega)
    have dda := (iha (pre ++ [x]) _ 3100 2000 0 [] ha ea (by simp) (by omega) (by omega) (by omega)).1
    have ddb := (ihb (pre ++ x :: a.flat) _ 3100 2000 0 [] hb eb (by simp) (by omega) (by omega) (by omega)).1
    have hr' : ∀ d' : Nat, d' ≤ 1000 → r.dep ≤ r.flat.length ∧ ref03_deep_L0 (n + 2) (m_ref03_deep (n + 2)) l (T ++ (SF.cons x a b r).tops pre.length) k (d' : Int) ((T.length + 1 : Nat) : Int) = some (.out ((max d' r.dep : Nat) : Int)) := by
      intro d' hd'
      have := ihr (pre ++ x :: (a.flat ++ b.flat)) post (n + 2) k d' (T ++ [(pre.length : Int)]) hr (by rw [he]; simp [SF.flat]) (by simp; omega) (by omega) (by omega) hd'
      rw [show (pre ++ x :: (a.flat ++ b.flat)).length = pre.length + 1 + a.flat.length + b.flat.length by simp; omega, List.append_assoc, List.length_append] at this
      exact this
    rw [h1, h2]
    have w0 : IntKind.i64.wrap ((pre.length : Int) + 1) = ((pre ++ [x]).length : Int) := by rw [wrap64 (by omega)]; simp
    have w1 : IntKind.i64.wrap (((pre ++ [x]).length : Int) + ((a.flat.length : Nat) : Int)) = ((pre ++ x :: a.flat).length : Int) := by
      rw [wrap64 (by simp only [List.length_append, List.length_cons, List.length_nil]; omega)]; simp only [List.length_append, List.length_cons, List.length_nil]; omega
    have w2 : IntKind.i64.wrap (((pre ++ x :: a.flat).length : Int) + ((b.flat.length : Nat) : Int)) = (((pre ++ x :: a.flat).length + b.flat.length : Nat) : Int) := by
      rw [wrap64 (by simp only [List.length_append, List.length_cons, List.length_nil]; omega)]; omega
    rw [show (pre ++ [x]).length + a.flat.length = (pre ++ x :: a.flat).length by simp; omega] at da
    have hw' : IntKind.i64.wrap ((T.length : Int) + 1) = ((T.length + 1 : Nat) : Int) := wrap_one _ (by omega)
    have wa : IntKind.i64.wrap (1 + (a.dep : Int)) = ((1 + a.dep : Nat) : Int) := by rw [wrap64 (by omega)]; omega
    have wb : IntKind.i64.wrap (1 + (b.dep : Int)) = ((1 + b.dep : Nat) : Int) := by rw [wrap64 (by omega)]; omega
    simp only [Option.bind_some, w0, w1, w2, hw', da, db]
    simp only [Option.bind_some, wa, wb, max3_m]
    have r0 := (hr' 0 (by omega)).1
    refine ⟨?_, ?_⟩
    · simp only [SF.dep, SF.flat, List.length_cons, List.length_append]; split <;> omega
    · simp only [SF.dep]
      cases hb : blockK x.f_Kind with
      | true =>
        simp only [cond_true, if_true]
        rw [(hr' _ (by omega)).2]; first | rfl | (congr 3; omega)
      | false =>
        simp only [cond_false, Bool.false_eq_true, if_false]
        rw [(hr' d hd).2]; first | rfl | (congr 3; omega)
theorem deep_m {l : List St} (hl : l.length < 1000) {z : Nat} (h : dF (l.length + 1) l = some z) {n : Nat} (hn : 4000 ≤ n) : m_ref03_deep n l 0 ((l.length : Nat) : Int) = some (z : Int) := by
  obtain ⟨F, f1, f2, f3⟩ := of_dF _ _ _ h
  obtain ⟨n, rfl⟩ : ∃ q, n = q + 1 := ⟨n - 1, by omega⟩
  have he : l = [] ++ (F.flat ++ []) := by rw [f2]; simp
  have hf : F.flat.length = l.length := by rw [f2]
  obtain ⟨n, rfl⟩ : ∃ q, n = q + 1 := ⟨n - 1, by omega⟩
  have t1 := tops_L l hl n F [] [] n [] f1 he (by simp) (by omega)
  have t2 := (deep_L l hl F [] [] (n + 1) (n + 1) 0 [] f1 he (by simp) (by omega) (by omega) (by omega)).2
  rw [List.nil_append, hf] at t1
  rw [List.nil_append, Nat.zero_max, f3] at t2
  rw [show ((([] : List St).length + l.length : Nat) : Int) = (l.length : Int) by simp, show (([] : List St).length : Int) = 0 from rfl] at t1
  rw [show (([] : List Int).length : Int) = 0 from rfl, show ((0 : Nat) : Int) = 0 from rfl] at t2
  rw [m_ref03_deep, m_ref03_tops, t1, Option.bind_some, Option.bind_some, t2]; rfl
theorem rright3_m (n : Nat) (l : List St) (hl : l.length < 1000) (hx : ∀ x ∈ l, LightX x) (hn : 5000 < n) : m_ref03_Right n l = some (rightB l) := by
  obtain ⟨n, rfl⟩ : ∃ j, n = j + 1 := ⟨n - 1, by omega⟩
  rw [m_ref03_Right, whole_m l hl (by omega), Option.bind_some]
  have hL : ref03_Right_L0 n l n 0 = bif l.all fitsB then some (.out ()) else some (.ret false) := by
    refine all_list l (fun q i => ref03_Right_L0 n l q (i : Int)) _ (fun q => ?_) (fun q i x hi hx' => ?_) (by omega)
    · rw [ref03_Right_L0, bif_not (by omega)]
    · have := hx x (List.mem_of_getElem? hx')
      rw [ref03_Right_L0, bif_decide (by omega), idx_some hx', Option.bind_some, one_d n x this (by omega), Option.bind_some, wrap_one i (by omega)]
  unfold rightB
  by_cases c2 : 200 < l.length
  · rw [bif_decide (by omega), decide_eq_true c2]
    cases dF (l.length + 1) l with
    | none => rfl
    | some z => dsimp only; cases !decide (30 < z) <;> rfl
  rw [bif_not (by omega), decide_eq_false c2, hL]
  cases hd : dF (l.length + 1) l with
  | none => rfl
  | some z =>
    rw [deep_m hl hd (by omega)]
    cases l.all fitsB with
    | true =>
      show some (decide ((z : Int) ≤ 30)) = some (!decide (30 < z) && true)
      rw [Bool.and_true]
      by_cases c : 30 < z
      · rw [decide_eq_true c, decide_eq_false (by omega)]; rfl
      · rw [decide_eq_false c, decide_eq_true (by omega)]; rfl
    | false => dsimp only; cases !decide (30 < z) <;> rfl
end Go.Proofs.YtpnhafdimkmbbaaGreat
end
section
namespace Go.Proofs.YtpnhafdimkmbbaaGreat
set_option linter.unusedVariables false
set_option linter.unusedSimpArgs false
set_option maxRecDepth 10000
abbrev Pg := S_api_Prog
abbrev Th := S_api_Thread
abbrev Cl := S_api_Claim
abbrev Va := S_api_Var
structure BoundT (t : Th) : Prop where
  name : t.f_Name.length ≤ 100
  regs : t.f_Regs.length ≤ 4000
  reg : ∀ r ∈ t.f_Regs, r.length ≤ 100
  body : t.f_Body.length ≤ 250
  st : ∀ x ∈ t.f_Body, LightX x
structure BoundP (p : Pg) : Prop where
  locs : p.f_Locs.length ≤ 4000
  threads : p.f_Threads.length ≤ 4000
  claims : p.f_Claims.length ≤ 4000
  loc : ∀ v ∈ p.f_Locs, v.f_Name.length ≤ 100
  thr : ∀ t ∈ p.f_Threads, BoundT t
  cl : ∀ c ∈ p.f_Claims, lightE c.f_E = true
def numB (n : Int) : Bool := decide (0 ≤ n ∧ n ≤ 9999)
def varOk (v : Va) : Bool := nameB v.f_Name && (numB v.f_N && decide (0 ≤ v.f_At))
def thrOk (t : Th) : Bool := nameB t.f_Name && (decide (0 ≤ t.f_At) && (rightB t.f_Body && t.f_Regs.all nameB))
def clB (l : List Nd) : Bool := (l.filter isName).all fun x => !(x.f_Op == 2)
def clOk (c : Cl) : Bool := clB c.f_E && (decide (1 ≤ c.f_Kind ∧ c.f_Kind ≤ 3) && (exprOk c.f_E && decide (0 ≤ c.f_At)))
def rightP (p : Pg) : Bool := numB p.f_Mod && (p.f_Locs.all varOk && (p.f_Threads.all thrOk && p.f_Claims.all clOk))
theorem num_p (n : Nat) (x : Int) : m_prog_number (n + 1) x = some (numB x) := by
  rw [m_prog_number, numB]
  by_cases h : 0 ≤ x
  · rw [bif_decide h]; by_cases h2 : x ≤ 9999 <;> simp [h, h2]
  · rw [bif_not h]; simp [h]
theorem num_d (n : Nat) (x : Int) : m_ref04_in (n + 1) x = some (numB x) := by
  rw [m_ref04_in, numB]
  by_cases h : 0 ≤ x
  · rw [bif_decide h]; by_cases h2 : x ≤ 9999 <;> simp [h, h2]
  · rw [bif_not h]; simp [h]
theorem name_p (n : Nat) (s : List UInt8) : m_scan_Name (n + 1) s = some (nameB s) := by simp only [m_scan_Name]
theorem lr_all {b : Bool} : ((bif b then some (.out ()) else some (.ret false)) : Option (LR Unit Bool)).bind (fun o => match o with | .out _ => some true | .ret v => some v) = some b := by cases b <;> rfl
theorem regs_p (n : Nat) (t : Th) (hr : t.f_Regs.length ≤ 4000) (hn : 4100 < n) : m_prog_all_3 n ((t.f_Regs.length : Nat) : Int) t.f_Name t.f_Regs t.f_Body t.f_At = some (t.f_Regs.all nameB) := by
  obtain ⟨n, rfl⟩ : ∃ j, n = j + 3 := ⟨n - 3, by omega⟩
  have hL : prog_all_3_L0 (n + 2) ((t.f_Regs.length : Nat) : Int) t.f_Name t.f_Regs t.f_Body t.f_At (n + 2) 0 = bif t.f_Regs.all nameB then some (.out ()) else some (.ret false) := by
    refine all_list t.f_Regs (fun q i => prog_all_3_L0 (n + 2) ((t.f_Regs.length : Nat) : Int) t.f_Name t.f_Regs t.f_Body t.f_At q (i : Int)) _ (fun q => ?_) (fun q i x hi hx => ?_) (by omega)
    · rw [prog_all_3_L0, bif_not (by omega)]
    · rw [prog_all_3_L0, bif_decide (by omega), m_prog_thread_1, idx_some hx, Option.bind_some, name_p, Option.bind_some, Option.bind_some, wrap_one i (by omega)]
  rw [m_prog_all_3, hL]; exact lr_all
theorem LightX.lens {l : List St} (h : ∀ x ∈ l, LightX x) : LenS l := by
  intro x hx
  obtain ⟨_, _, h3, h4⟩ := h x hx
  simp only [lightE, Bool.and_eq_true, decide_eq_true_eq] at h3 h4
  exact ⟨h3.1, h4.1⟩
theorem thr_p (n : Nat) (t : Th) (h : BoundT t) (hn : 5100 < n) : m_prog_thread n t = some (thrOk t) := by
  obtain ⟨n, rfl⟩ : ∃ j, n = j + 2 := ⟨n - 2, by omega⟩
  rw [m_prog_thread, name_p, Option.bind_some, sright_m (n + 1) t.f_Body (by have := h.body; omega) (LightX.lens h.st) (by omega), regs_p (n + 1) t h.regs (by omega)]
  unfold thrOk
  by_cases c : 0 ≤ t.f_At
  · rw [bif_decide c, decide_eq_true c]
    cases nameB t.f_Name <;> cases rightB t.f_Body <;> rfl
  · rw [bif_not c, decide_eq_false c]
    cases nameB t.f_Name <;> rfl
theorem clB_L {F : Nat → Int → Option (LR Unit Bool)} (l : List Nd) (h0 : ∀ k, F (k + 1) ((l.length : Nat) : Int) = some (.out ())) (h1 : ∀ k i x, i < l.length → l[i]? = some x → F (k + 1) (i : Int) = bif x.f_Op == 2 then some (.ret false) else F k ((i + 1 : Nat) : Int)) {k : Nat} (hk : l.length < k) : F k 0 = bif l.all (fun x => !(x.f_Op == 2)) then some (.out ()) else some (.ret false) := by
  refine all_list l (fun k i => F k (i : Int)) _ (fun k => h0 k) (fun k i x hi hx => ?_) hk
  rw [h1 k i x hi hx]
  cases x.f_Op == 2 <;> rfl
theorem word_p (n : Nat) (k : Int) : ∃ w, m_prog_word (n + 1) k = some w ∧ (w == ([] : List UInt8)) = !decide (1 ≤ k ∧ k ≤ 3) := by
  by_cases h : 1 ≤ k ∧ k ≤ 3
  · have c : k = 1 ∨ k = 2 ∨ k = 3 := by omega
    rcases c with rfl | rfl | rfl <;> exact ⟨_, rfl, rfl⟩
  · refine ⟨[], ?_, by rw [decide_eq_false h]; rfl⟩
    rw [m_prog_word, beq_eq_false_iff_ne.2 (show k ≠ 1 by omega), beq_eq_false_iff_ne.2 (show k ≠ 2 by omega), beq_eq_false_iff_ne.2 (show k ≠ 3 by omega)]; rfl
theorem cl_p (n : Nat) (c : Cl) (h : lightE c.f_E = true) (hn : 600 < n) : m_prog_claim n c = some (clOk c) := by
  have h0 : c.f_E.length ≤ 250 := by simp only [lightE, Bool.and_eq_true, decide_eq_true_eq] at h; exact h.1
  have hf : (c.f_E.filter isName).length ≤ c.f_E.length := List.length_filter_le ..
  obtain ⟨n, rfl⟩ : ∃ j, n = j + 2 := ⟨n - 2, by omega⟩
  have hL := clB_L (F := fun k i => prog_claim_L0 (n + 1) (c.f_E.filter isName) k i) (c.f_E.filter isName) (fun k => by rw [prog_claim_L0, bif_not (by omega)]) (fun k i y hi hy => by rw [prog_claim_L0, bif_decide (by omega), idx_some hy, Option.bind_some, wrap_one i (by omega)]) (k := n + 1) (by omega)
  obtain ⟨w, w1, w2⟩ := word_p n c.f_Kind
  rw [m_prog_claim, names_m (n + 1) c.f_E (by omega) (by omega), Option.bind_some, hL, w1, eright_m (n + 1) c.f_E (by omega) (by omega)]
  unfold clOk clB
  cases (c.f_E.filter isName).all (fun x => !(x.f_Op == 2)) with
  | false => rfl
  | true =>
    simp only [cond_true, Option.bind_some, w2]
    cases decide (1 ≤ c.f_Kind ∧ c.f_Kind ≤ 3) <;> cases exprOk c.f_E <;> rfl
theorem right_p (n : Nat) (p : Pg) (h : BoundP p) (hn : 6000 < n) : m_prog_Right n p = some (rightP p) := by
  have hl := h.locs
  have ht := h.threads
  have hc := h.claims
  obtain ⟨n, rfl⟩ : ∃ j, n = j + 4 := ⟨n - 4, by omega⟩
  have h1 : m_prog_all (n + 3) ((p.f_Locs.length : Nat) : Int) p.f_Mod p.f_Locs p.f_Threads p.f_Claims = some (p.f_Locs.all varOk) := by
    have hL : prog_all_L0 (n + 2) ((p.f_Locs.length : Nat) : Int) p.f_Mod p.f_Locs p.f_Threads p.f_Claims (n + 2) 0 = bif p.f_Locs.all varOk then some (.out ()) else some (.ret false) := by
      refine all_list p.f_Locs (fun q i => prog_all_L0 (n + 2) ((p.f_Locs.length : Nat) : Int) p.f_Mod p.f_Locs p.f_Threads p.f_Claims q (i : Int)) _ (fun q => ?_) (fun q i x hi hx => ?_) (by omega)
      · rw [prog_all_L0, bif_not (by omega)]
      · rw [prog_all_L0, bif_decide (by omega), m_prog_Right_1, idx_some hx, Option.bind_some, name_p, Option.bind_some, num_p, Option.bind_some, wrap_one i (by omega)]
        unfold varOk
        cases nameB x.f_Name <;> cases numB x.f_N <;> rfl
    rw [m_prog_all, hL]; exact lr_all
  have h2 : m_prog_all_1 (n + 3) ((p.f_Threads.length : Nat) : Int) p.f_Mod p.f_Locs p.f_Threads p.f_Claims = some (p.f_Threads.all thrOk) := by
    have hL : prog_all_1_L0 (n + 2) ((p.f_Threads.length : Nat) : Int) p.f_Mod p.f_Locs p.f_Threads p.f_Claims (n + 2) 0 = bif p.f_Threads.all thrOk then some (.out ()) else some (.ret false) := by
      refine all_list p.f_Threads (fun q i => prog_all_1_L0 (n + 2) ((p.f_Threads.length : Nat) : Int) p.f_Mod p.f_Locs p.f_Threads p.f_Claims q (i : Int)) _ (fun q => ?_) (fun q i x hi hx => ?_) (by omega)
      · rw [prog_all_1_L0, bif_not (by omega)]
      · rw [prog_all_1_L0, bif_decide (by omega), m_prog_Right_2, idx_some hx, Option.bind_some, thr_p _ x (h.thr x (List.mem_of_getElem? hx)) (by omega), Option.bind_some, Option.bind_some, wrap_one i (by omega)]
    rw [m_prog_all_1, hL]; exact lr_all
  have h3 : m_prog_all_2 (n + 3) ((p.f_Claims.length : Nat) : Int) p.f_Mod p.f_Locs p.f_Threads p.f_Claims = some (p.f_Claims.all clOk) := by
    have hL : prog_all_2_L0 (n + 2) ((p.f_Claims.length : Nat) : Int) p.f_Mod p.f_Locs p.f_Threads p.f_Claims (n + 2) 0 = bif p.f_Claims.all clOk then some (.out ()) else some (.ret false) := by
      refine all_list p.f_Claims (fun q i => prog_all_2_L0 (n + 2) ((p.f_Claims.length : Nat) : Int) p.f_Mod p.f_Locs p.f_Threads p.f_Claims q (i : Int)) _ (fun q => ?_) (fun q i x hi hx => ?_) (by omega)
      · rw [prog_all_2_L0, bif_not (by omega)]
      · rw [prog_all_2_L0, bif_decide (by omega), m_prog_Right_3, idx_some hx, Option.bind_some, cl_p _ x (h.cl x (List.mem_of_getElem? hx)) (by omega), Option.bind_some, Option.bind_some, wrap_one i (by omega)]
    rw [m_prog_all_2, hL]; exact lr_all
  rw [m_prog_Right, h1, num_p, h2, h3]
  unfold rightP
  simp only [Option.bind_some]
  cases numB p.f_Mod <;> cases p.f_Locs.all varOk <;> cases p.f_Threads.all thrOk <;> rfl
theorem rcl_d (n : Nat) (l : List Nd) (h : lightE l = true) (hn : 600 < n) : m_ref04_claimed n l = some (clB l && exprOk l) := by
  have h0 : l.length ≤ 250 := by simp only [lightE, Bool.and_eq_true, decide_eq_true_eq] at h; exact h.1
  have hf : (l.filter isName).length ≤ l.length := List.length_filter_le ..
  obtain ⟨n, rfl⟩ : ∃ j, n = j + 1 := ⟨n - 1, by omega⟩
  have hL := clB_L (F := fun k i => ref04_claimed_L0 n (l.filter isName) k i) (l.filter isName) (fun k => by rw [ref04_claimed_L0, bif_not (by omega)]) (fun k i y hi hy => by rw [ref04_claimed_L0, bif_decide (by omega), idx_some hy, Option.bind_some, wrap_one i (by omega)]) (k := n) (by omega)
  rw [m_ref04_claimed, rnames_m n l (by omega) (by omega), Option.bind_some, hL, rright_e n l h (by omega)]
  unfold clB
  cases (l.filter isName).all (fun x => !(x.f_Op == 2)) <;> rfl
theorem right_d (n : Nat) (p : Pg) (h : BoundP p) (hn : 6000 < n) : m_ref04_Right n p = some (rightP p) := by
  have hl := h.locs
  have ht := h.threads
  have hc := h.claims
  obtain ⟨n, rfl⟩ : ∃ j, n = j + 2 := ⟨n - 2, by omega⟩
  have h1 : ref04_Right_L0 (n + 1) p (n + 1) 0 = bif p.f_Locs.all varOk then some (.out ()) else some (.ret false) := by
    refine all_list p.f_Locs (fun q i => ref04_Right_L0 (n + 1) p q (i : Int)) _ (fun q => ?_) (fun q i x hi hx => ?_) (by omega)
    · rw [ref04_Right_L0, bif_not (by omega)]
    · have := h.loc x (List.mem_of_getElem? hx)
      rw [ref04_Right_L0, bif_decide (by omega), idx_some hx, Option.bind_some, rname_m (n + 1) x.f_Name (by omega) (by omega)]
      simp only [Option.bind_some, num_d, wrap_one i (show i < 4611686018427387904 by omega)]
      unfold varOk
      by_cases c : 0 ≤ x.f_At
      · rw [bif_not (by omega), decide_eq_true c]; cases nameB x.f_Name <;> cases numB x.f_N <;> rfl
      · rw [bif_decide (by omega), decide_eq_false c]; cases nameB x.f_Name <;> cases numB x.f_N <;> rfl
  have h2 : ref04_Right_L1 (n + 1) p (n + 1) 0 = bif p.f_Threads.all thrOk then some (.out ()) else some (.ret false) := by
    refine all_list p.f_Threads (fun q i => ref04_Right_L1 (n + 1) p q (i : Int)) _ (fun q => ?_) (fun q i x hi hx => ?_) (by omega)
    · rw [ref04_Right_L1, bif_not (by omega)]
    · have hb := h.thr x (List.mem_of_getElem? hx)
      have := hb.name
      have hrg := hb.regs
      have hR : ref04_Right_L2 (n + 1) x (n + 1) 0 = bif x.f_Regs.all nameB then some (.out ()) else some (.ret false) := by
        refine all_list x.f_Regs (fun q i => ref04_Right_L2 (n + 1) x q (i : Int)) _ (fun q => ?_) (fun q i y hi hy => ?_) (by omega)
        · rw [ref04_Right_L2, bif_not (by omega)]
        · have := hb.reg y (List.mem_of_getElem? hy)
          rw [ref04_Right_L2, bif_decide (by omega), idx_some hy, Option.bind_some, rname_m (n + 1) y (by omega) (by omega), Option.bind_some, wrap_one i (by omega)]
      rw [ref04_Right_L1, bif_decide (by omega), idx_some hx, Option.bind_some, rname_m (n + 1) x.f_Name (by omega) (by omega), rright3_m (n + 1) x.f_Body (by have := hb.body; omega) hb.st (by omega), hR]
      simp only [Option.bind_some, wrap_one i (show i < 4611686018427387904 by omega)]
      unfold thrOk
      by_cases c : 0 ≤ x.f_At
      · rw [bif_not (by omega), decide_eq_true c]; cases nameB x.f_Name <;> cases rightB x.f_Body <;> cases x.f_Regs.all nameB <;> rfl
      · rw [bif_decide (by omega), decide_eq_false c]; cases nameB x.f_Name <;> cases rightB x.f_Body <;> rfl
  have h3 : ref04_Right_L3 (n + 1) p (n + 1) 0 = bif p.f_Claims.all clOk then some (.out ()) else some (.ret false) := by
    refine all_list p.f_Claims (fun q i => ref04_Right_L3 (n + 1) p q (i : Int)) _ (fun q => ?_) (fun q i x hi hx => ?_) (by omega)
    · rw [ref04_Right_L3, bif_not (by omega)]
    · rw [ref04_Right_L3, bif_decide (by omega), idx_some hx, Option.bind_some, rcl_d (n + 1) x.f_E (h.cl x (List.mem_of_getElem? hx)) (by omega)]
      simp only [Option.bind_some, wrap_one i (show i < 4611686018427387904 by omega)]
      unfold clOk
      by_cases k1 : x.f_Kind < 1
      · rw [bif_decide k1, decide_eq_false (show ¬ (1 ≤ x.f_Kind ∧ x.f_Kind ≤ 3) by omega)]; cases clB x.f_E <;> rfl
      by_cases k2 : 3 < x.f_Kind
      · rw [bif_not k1, bif_decide k2, decide_eq_false (show ¬ (1 ≤ x.f_Kind ∧ x.f_Kind ≤ 3) by omega)]; cases clB x.f_E <;> rfl
      rw [bif_not k1, bif_not k2, decide_eq_true (show 1 ≤ x.f_Kind ∧ x.f_Kind ≤ 3 by omega)]
      by_cases c : 0 ≤ x.f_At
      · rw [bif_not (show ¬ x.f_At < 0 by omega), decide_eq_true c]; cases clB x.f_E <;> cases exprOk x.f_E <;> rfl
      · rw [bif_decide (show x.f_At < 0 by omega), decide_eq_false c]; cases clB x.f_E <;> cases exprOk x.f_E <;> rfl
  rw [m_ref04_Right, num_d, h1, h2, h3]
  unfold rightP
  simp only [Option.bind_some]
  cases numB p.f_Mod <;> cases p.f_Locs.all varOk <;> cases p.f_Threads.all thrOk <;> cases p.f_Claims.all clOk <;> rfl
end Go.Proofs.YtpnhafdimkmbbaaGreat
end
section
namespace Go.Proofs.YtpnhafdimkmbbaaGreat
set_option linter.unusedVariables false
set_option linter.unusedSimpArgs false
set_option maxRecDepth 10000
abbrev Chk := Bool × Int × Int
def note (c : Int × Int) (k : Chk) : Int × Int := bif k.1 then c else bif c.1 == 0 then k.2 else c
def foldN (c : Int × Int) (l : List Chk) : Int × Int := l.foldl note c
def badL : List Chk → Option (Int × Int)
  | [] => none
  | k :: l => bif k.1 then badL l else some k.2
def chF (g : Nat → List Chk) : Nat → Nat → List Chk
  | 0, _ => []
  | m + 1, i => g i ++ chF g m (i + 1)
theorem foldN_app (c : Int × Int) (a b : List Chk) : foldN c (a ++ b) = foldN (foldN c a) b := List.foldl_append
theorem foldN_cons (c : Int × Int) (k : Chk) (b : List Chk) : foldN c (k :: b) = foldN (note c k) b := rfl
theorem foldN_nil (c : Int × Int) : foldN c [] = c := rfl
def ErL (l : List Chk) : Prop := ∀ k ∈ l, k.2.1 ≠ 0
theorem foldN_bad : ∀ (l : List Chk) (c : Int × Int), ErL l → foldN c l = bif c.1 == 0 then (badL l).getD c else c
  | [], c, _ => by simp only [foldN_nil, badL]; cases c.1 == 0 <;> rfl
  | k :: l, c, h => by
    have h1 : k.2.1 ≠ 0 := h k (List.mem_cons_self ..)
    rw [foldN_cons, foldN_bad l _ (fun q hq => h q (List.mem_cons_of_mem _ hq))]
    simp only [badL, note]
    cases k.1 with
    | true => rfl
    | false =>
      simp only [cond_false]
      cases hc : c.1 == 0 with
      | true => rw [cond_true, beq_eq_false_iff_ne.2 h1]; rfl
      | false => rw [cond_false, hc]; rfl
theorem fold_loop {σ ρ ν : Type} (N : Nat) (g : Nat → List Chk) (L : Nat → Nat → σ → Option (LR ρ ν)) (Inv : Nat → (Int × Int) → σ → Prop) (out : σ → ρ)
    (h0 : ∀ k s c, Inv N c s → L (k + 1) N s = some (.out (out s)))
    (h1 : ∀ k i s c, i < N → Inv i c s → ∃ s', Inv (i + 1) (foldN c (g i)) s' ∧ L (k + 1) i s = L k (i + 1) s') :
    ∀ (m k i : Nat) (s : σ) (c : Int × Int), i + m = N → m < k → Inv i c s → ∃ s', Inv N (foldN c (chF g m i)) s' ∧ L k i s = some (.out (out s')) := by
  intro m
  induction m with
  | zero =>
    intro k i s c hi hk hs
    obtain ⟨k, rfl⟩ : ∃ j, k = j + 1 := ⟨k - 1, by omega⟩
    obtain rfl : i = N := by omega
    exact ⟨s, hs, h0 k s c hs⟩
  | succ m ih =>
    intro k i s c hi hk hs
    obtain ⟨k, rfl⟩ : ∃ j, k = j + 1 := ⟨k - 1, by omega⟩
    obtain ⟨s', a1, a2⟩ := h1 k i s c (by omega) hs
    obtain ⟨s2, b1, b2⟩ := ih k (i + 1) s' _ (by omega) (by omega) a1
    exact ⟨s2, by rw [chF, foldN_app]; exact b1, a2.trans b2⟩
abbrev Mi := List (List UInt8 × Int)
abbrev Mm := List (List UInt8 × Mi)
theorem must_m (n : Nat) (so : Bool) (e a md : Int) (l : List Va) (t : List Th) (c : List Cl) (ce ca : Int) (m1 : Mi) (m2 : Mm) : m_legal_checker_must (n + 1) so e a md l t c ce ca m1 m2 = some ((note (ce, ca) (so, e, a)).1 == 0, note (ce, ca) (so, e, a)) := by
  rw [m_legal_checker_must]
  cases so with
  | true => rfl
  | false => cases h : ce == 0 <;> simp [note, h]
def nodeC (kn : Nd → Bool) (md : Int) (x : Nd) : List Chk := bif x.f_Op == 1 then [(decide (x.f_N < md), 11, x.f_At)] else bif x.f_Op == 2 || (x.f_Op == 3 || x.f_Op == 4) then [(kn x, 9, x.f_At)] else []
def nodesC (kn : Nd → Bool) (md : Int) (l : List Nd) : List Chk := l.flatMap (nodeC kn md)
def knC (m1 : Mi) (m2 : Mm) (x : Nd) : Bool := bif x.f_Op == 3 then decide (0 < mget m1 x.f_Name 0) else decide (0 < mget (mget m2 x.f_In []) x.f_Name 0)
def knB (m : Mi) (x : Nd) : Bool := decide (0 < mget m x.f_Name 0)
theorem claim1_m (n : Nat) (x : Nd) (md : Int) (l : List Va) (t : List Th) (c : List Cl) (ce ca : Int) (m1 : Mi) (m2 : Mm) : m_legal_checker_claim_1 (n + 1) x md l t c ce ca m1 m2 = some (knC m1 m2 x) := by
  rw [m_legal_checker_claim_1, knC]; cases x.f_Op == 3 <;> rfl
theorem nodes0_m (n : Nat) (l : List Nd) (md : Int) (lo : List Va) (t : List Th) (cl : List Cl) (ce ca : Int) (m1 : Mi) (m2 : Mm) (hl : l.length ≤ 1000) (hn : 1010 < n) : m_legal_checker_nodes n l md lo t cl ce ca m1 m2 = some (foldN (ce, ca) (nodesC (knC m1 m2) md l)) := by
  obtain ⟨n, rfl⟩ : ∃ j, n = j + 2 := ⟨n - 2, by omega⟩
  have := loop_list0 l (fun k i (s : Int × Int) => legal_checker_nodes_L0 (n + 1) l md lo t cl m1 m2 k (i : Int) s.1 s.2) (fun l s => some (.out (foldN s (nodesC (knC m1 m2) md l)))) (fun _ _ => True) (k := n + 1) (s := (ce, ca)) (by omega) trivial (fun k s _ => by rw [legal_checker_nodes_L0, bif_not (by omega)]; rfl) (fun k i s x hi hx _ ih => by
    have ih' : ∀ c : Int × Int, legal_checker_nodes_L0 (n + 1) l md lo t cl m1 m2 k ((i + 1 : Nat) : Int) c.1 c.2 = _ := fun c => ih c trivial
    rw [legal_checker_nodes_L0, bif_decide (by omega), idx_some hx, Option.bind_some]
    simp only [must_m, claim1_m, Option.bind_some, wrap_one i (show i < 4611686018427387904 by omega), ih']
    rw [show nodesC (knC m1 m2) md (x :: l.drop (i + 1)) = nodeC (knC m1 m2) md x ++ nodesC (knC m1 m2) md (l.drop (i + 1)) from List.flatMap_cons, foldN_app]
    rw [nodeC]
    cases x.f_Op == 1 with
    | true => rfl
    | false => cases x.f_Op == 2 <;> cases x.f_Op == 3 <;> cases x.f_Op == 4 <;> rfl)
  rw [m_legal_checker_nodes]
  rw [show ((0 : Nat) : Int) = 0 from rfl] at this
  rw [this]; rfl
theorem nodes1_m (n : Nat) (l : List Nd) (md : Int) (lo : List Va) (t : List Th) (cl : List Cl) (ce ca : Int) (m1 : Mi) (m2 : Mm) (m : Mi) (hl : l.length ≤ 1000) (hn : 1010 < n) : m_legal_checker_nodes_1 n l md lo t cl ce ca m1 m2 m = some (foldN (ce, ca) (nodesC (knB m) md l)) := by
  obtain ⟨n, rfl⟩ : ∃ j, n = j + 2 := ⟨n - 2, by omega⟩
  have := loop_list0 l (fun k i (s : Int × Int) => legal_checker_nodes_1_L0 (n + 1) l md lo t cl m1 m2 m k (i : Int) s.1 s.2) (fun l s => some (.out (foldN s (nodesC (knB m) md l)))) (fun _ _ => True) (k := n + 1) (s := (ce, ca)) (by omega) trivial (fun k s _ => by rw [legal_checker_nodes_1_L0, bif_not (by omega)]; rfl) (fun k i s x hi hx _ ih => by
    have ih' : ∀ c : Int × Int, legal_checker_nodes_1_L0 (n + 1) l md lo t cl m1 m2 m k ((i + 1 : Nat) : Int) c.1 c.2 = _ := fun c => ih c trivial
    rw [legal_checker_nodes_1_L0, bif_decide (by omega), idx_some hx, Option.bind_some]
    simp only [must_m, m_legal_checker_body_1z, Option.bind_some, wrap_one i (show i < 4611686018427387904 by omega), ih']
    rw [show nodesC (knB m) md (x :: l.drop (i + 1)) = nodeC (knB m) md x ++ nodesC (knB m) md (l.drop (i + 1)) from List.flatMap_cons, foldN_app]
    rw [nodeC]
    cases x.f_Op == 1 with
    | true => rfl
    | false => cases x.f_Op == 2 <;> cases x.f_Op == 3 <;> cases x.f_Op == 4 <;> rfl)
  rw [m_legal_checker_nodes_1]
  rw [show ((0 : Nat) : Int) = 0 from rfl] at this
  rw [this]; rfl
theorem nodes2_m (n : Nat) (l : List Nd) (md : Int) (lo : List Va) (t : List Th) (cl : List Cl) (ce ca : Int) (m1 : Mi) (m2 : Mm) (m : Mi) (hl : l.length ≤ 1000) (hn : 1010 < n) : m_legal_checker_nodes_2 n l md lo t cl ce ca m1 m2 m = some (foldN (ce, ca) (nodesC (knB m) md l)) := by
  obtain ⟨n, rfl⟩ : ∃ j, n = j + 2 := ⟨n - 2, by omega⟩
  have := loop_list0 l (fun k i (s : Int × Int) => legal_checker_nodes_2_L0 (n + 1) l md lo t cl m1 m2 m k (i : Int) s.1 s.2) (fun l s => some (.out (foldN s (nodesC (knB m) md l)))) (fun _ _ => True) (k := n + 1) (s := (ce, ca)) (by omega) trivial (fun k s _ => by rw [legal_checker_nodes_2_L0, bif_not (by omega)]; rfl) (fun k i s x hi hx _ ih => by
    have ih' : ∀ c : Int × Int, legal_checker_nodes_2_L0 (n + 1) l md lo t cl m1 m2 m k ((i + 1 : Nat) : Int) c.1 c.2 = _ := fun c => ih c trivial
    rw [legal_checker_nodes_2_L0, bif_decide (by omega), idx_some hx, Option.bind_some]
    simp only [must_m, m_legal_checker_body_1_1, Option.bind_some, wrap_one i (show i < 4611686018427387904 by omega), ih']
    rw [show nodesC (knB m) md (x :: l.drop (i + 1)) = nodeC (knB m) md x ++ nodesC (knB m) md (l.drop (i + 1)) from List.flatMap_cons, foldN_app]
    rw [nodeC]
    cases x.f_Op == 1 with
    | true => rfl
    | false => cases x.f_Op == 2 <;> cases x.f_Op == 3 <;> cases x.f_Op == 4 <;> rfl)
  rw [m_legal_checker_nodes_2]
  rw [show ((0 : Nat) : Int) = 0 from rfl] at this
  rw [this]; rfl
def untl (l : List St) : Nat → Int
  | 0 => 0
  | i + 1 => match l[i]? with
    | some x => bif x.f_Kind == 11 || x.f_Kind == 12 then (if untl l i < (i : Int) + 1 + x.f_Body then (i : Int) + 1 + x.f_Body else untl l i) else untl l i
    | none => untl l i
def stC (rk : Nd → Bool) (rr lk : List UInt8 → Bool) (md : Int) (l : List St) (i : Nat) : List Chk := match l[i]? with
  | some x => (bif x.f_Kind == 13 then [(decide ((i : Int) < untl l i), 13, x.f_At)] else []) ++ ((x.f_Reg == [] || rr x.f_Reg, 9, x.f_At) :: (x.f_Loc == [] || lk x.f_Loc, 9, x.f_At) :: (nodesC rk md x.f_E ++ nodesC rk md x.f_F))
  | none => []
def BodyOk (l : List St) : Prop := l.length ≤ 1000 ∧ ∀ x ∈ l, 0 ≤ x.f_Body ∧ x.f_Body ≤ 1000 ∧ x.f_E.length ≤ 1000 ∧ x.f_F.length ≤ 1000
theorem body1_m (n : Nat) (th : Th) (md : Int) (lo : List Va) (t : List Th) (cl : List Cl) (ce ca : Int) (m1 : Mi) (m2 : Mm) (m : Mi) (h : BodyOk th.f_Body) (hn : 1020 < n) : m_legal_checker_body n th md lo t cl ce ca m1 m2 m = some (foldN (ce, ca) (chF (stC (knB m) (fun r => decide (0 < mget m r 0)) (fun r => decide (0 < mget m1 r 0)) md th.f_Body) th.f_Body.length 0)) := by
  obtain ⟨hl, hb⟩ := h
  obtain ⟨n, rfl⟩ : ∃ j, n = j + 2 := ⟨n - 2, by omega⟩
  obtain ⟨s', ⟨a1, a2⟩, a3⟩ := fold_loop th.f_Body.length (stC (knB m) (fun r => decide (0 < mget m r 0)) (fun r => decide (0 < mget m1 r 0)) md th.f_Body) (fun k i (s : Int × Int × Int) => legal_checker_body_L0 (n + 1) th md lo t cl m1 m2 m k s.1 (i : Int) s.2.1 s.2.2) (fun i c s => s.1 = untl th.f_Body i ∧ s.2 = c) (fun s => (s.2.1, s.2.2))
    (fun k s c _ => by rw [legal_checker_body_L0, bif_not (by omega)]) (fun k i s c hi hs => by
      obtain ⟨u, d⟩ := s
      obtain ⟨rfl, rfl⟩ := hs
      have hx : th.f_Body[i]? = some (th.f_Body[i]'hi) := List.getElem?_eq_getElem hi
      obtain ⟨hb1, hb2, hb3, hb4⟩ := hb _ (List.getElem_mem hi)
      generalize th.f_Body[i]'hi = x at *
      refine ⟨(untl th.f_Body (i + 1), foldN d (stC (knB m) (fun r => decide (0 < mget m r 0)) (fun r => decide (0 < mget m1 r 0)) md th.f_Body i)), ⟨rfl, rfl⟩, ?_⟩
      dsimp only
      have w1 : IntKind.i64.wrap (((i + 1 : Nat) : Int) + x.f_Body) = (i : Int) + 1 + x.f_Body := by rw [wrap64 (by omega)]; omega
      rw [legal_checker_body_L0, bif_decide (by omega), idx_some hx, Option.bind_some]
      simp only [must_m, nodes1_m (n + 1) x.f_E md lo t cl _ _ m1 m2 m hb3 (by omega), nodes1_m (n + 1) x.f_F md lo t cl _ _ m1 m2 m hb4 (by omega), Option.bind_some, wrap_one i (show i < 4611686018427387904 by omega), w1]
      rw [untl, stC, hx]
      dsimp only
      by_cases k1 : x.f_Kind = 11
      · rw [k1]; cases x.f_Reg == [] <;> cases x.f_Loc == [] <;> (simp only [foldN_app, foldN_cons]; rfl)
      by_cases k2 : x.f_Kind = 12
      · rw [k2]; cases x.f_Reg == [] <;> cases x.f_Loc == [] <;> (simp only [foldN_app, foldN_cons]; rfl)
      rw [beq_eq_false_iff_ne.2 k1, beq_eq_false_iff_ne.2 k2]
      cases x.f_Kind == 13 <;> cases x.f_Reg == [] <;> cases x.f_Loc == [] <;> (simp only [foldN_app, foldN_cons]; rfl)) th.f_Body.length (n + 1) 0 (0, ce, ca) (ce, ca) (by omega) (by omega) ⟨rfl, rfl⟩
  rw [m_legal_checker_body]
  dsimp only at a3
  rw [show ((0 : Nat) : Int) = 0 from rfl] at a3
  rw [a3, Option.bind_some]
  dsimp only
  rw [← a2]
theorem body2_m (n : Nat) (th : Th) (md : Int) (lo : List Va) (t : List Th) (cl : List Cl) (ce ca : Int) (m1 : Mi) (m2 : Mm) (m : Mi) (h : BodyOk th.f_Body) (hn : 1020 < n) : m_legal_checker_body_1 n th md lo t cl ce ca m1 m2 m = some (foldN (ce, ca) (chF (stC (knB m) (fun r => decide (0 < mget m r 0)) (fun r => decide (0 < mget m1 r 0)) md th.f_Body) th.f_Body.length 0)) := by
  obtain ⟨hl, hb⟩ := h
  obtain ⟨n, rfl⟩ : ∃ j, n = j + 2 := ⟨n - 2, by omega⟩
  obtain ⟨s', ⟨a1, a2⟩, a3⟩ := fold_loop th.f_Body.length (stC (knB m) (fun r => decide (0 < mget m r 0)) (fun r => decide (0 < mget m1 r 0)) md th.f_Body) (fun k i (s : Int × Int × Int) => legal_checker_body_1_L0 (n + 1) th md lo t cl m1 m2 m k s.1 (i : Int) s.2.1 s.2.2) (fun i c s => s.1 = untl th.f_Body i ∧ s.2 = c) (fun s => (s.2.1, s.2.2))
    (fun k s c _ => by rw [legal_checker_body_1_L0, bif_not (by omega)]) (fun k i s c hi hs => by
      obtain ⟨u, d⟩ := s
      obtain ⟨rfl, rfl⟩ := hs
      have hx : th.f_Body[i]? = some (th.f_Body[i]'hi) := List.getElem?_eq_getElem hi
      obtain ⟨hb1, hb2, hb3, hb4⟩ := hb _ (List.getElem_mem hi)
      generalize th.f_Body[i]'hi = x at *
      refine ⟨(untl th.f_Body (i + 1), foldN d (stC (knB m) (fun r => decide (0 < mget m r 0)) (fun r => decide (0 < mget m1 r 0)) md th.f_Body i)), ⟨rfl, rfl⟩, ?_⟩
      dsimp only
      have w1 : IntKind.i64.wrap (((i + 1 : Nat) : Int) + x.f_Body) = (i : Int) + 1 + x.f_Body := by rw [wrap64 (by omega)]; omega
      rw [legal_checker_body_1_L0, bif_decide (by omega), idx_some hx, Option.bind_some]
      simp only [must_m, nodes2_m (n + 1) x.f_E md lo t cl _ _ m1 m2 m hb3 (by omega), nodes2_m (n + 1) x.f_F md lo t cl _ _ m1 m2 m hb4 (by omega), Option.bind_some, wrap_one i (show i < 4611686018427387904 by omega), w1]
      rw [untl, stC, hx]
      dsimp only
      by_cases k1 : x.f_Kind = 11
      · rw [k1]; cases x.f_Reg == [] <;> cases x.f_Loc == [] <;> (simp only [foldN_app, foldN_cons]; rfl)
      by_cases k2 : x.f_Kind = 12
      · rw [k2]; cases x.f_Reg == [] <;> cases x.f_Loc == [] <;> (simp only [foldN_app, foldN_cons]; rfl)
      rw [beq_eq_false_iff_ne.2 k1, beq_eq_false_iff_ne.2 k2]
      cases x.f_Kind == 13 <;> cases x.f_Reg == [] <;> cases x.f_Loc == [] <;> (simp only [foldN_app, foldN_cons]; rfl)) th.f_Body.length (n + 1) 0 (0, ce, ca) (ce, ca) (by omega) (by omega) ⟨rfl, rfl⟩
  rw [m_legal_checker_body_1]
  dsimp only at a3
  rw [show ((0 : Nat) : Int) = 0 from rfl] at a3
  rw [a3, Option.bind_some]
  dsimp only
  rw [← a2]
end Go.Proofs.YtpnhafdimkmbbaaGreat
end
section
namespace Go.Proofs.YtpnhafdimkmbbaaGreat
set_option linter.unusedVariables false
set_option linter.unusedSimpArgs false
set_option maxRecDepth 10000
theorem mget_mset {ν : Type} : ∀ (m : List (List UInt8 × ν)) (x s : List UInt8) (v z : ν), mget (mset m x v) s z = if s = x then v else mget m s z
  | [], x, s, v, z => by simp only [mset, mget]
  | p :: m, x, s, v, z => by
    rw [mset]
    by_cases h : x = p.1
    · subst h
      rw [if_pos rfl, mget, mget]
      by_cases h2 : s = p.1
      · rw [if_pos h2, if_pos h2]
      · rw [if_neg h2, if_neg h2, if_neg h2]
    · rw [if_neg h, mget, mget, mget_mset m x s v z]
      by_cases h2 : s = p.1
      · rw [if_pos h2, if_pos h2, if_neg (by rw [h2]; exact fun e => h e.symm)]
      · rw [if_neg h2, if_neg h2]
theorem mhas_mset {ν : Type} : ∀ (m : List (List UInt8 × ν)) (x s : List UInt8) (v : ν), mhas (mset m x v) s = (decide (s = x) || mhas m s)
  | [], x, s, v => by simp only [mset, mhas]; by_cases h : s = x <;> simp [h]
  | p :: m, x, s, v => by
    rw [mset]
    by_cases h : x = p.1
    · subst h
      rw [if_pos rfl, mhas, mhas]
      by_cases h2 : s = p.1 <;> simp [h2]
    · rw [if_neg h, mhas, mhas, mhas_mset m x s v]
      by_cases h2 : s = p.1
      · simp [h2]
      · simp [h2]
def Cnt (m : Mi) (l : List (List UInt8)) (b : Nat) : Prop := ∀ s, 0 ≤ mget m s 0 ∧ mget m s 0 ≤ (b : Int) ∧ (0 < mget m s 0 ↔ s ∈ l)
theorem Cnt.nil : Cnt [] [] 0 := fun s => ⟨Int.le_refl _, Int.le_refl _, by simp [mget]⟩
theorem Cnt.step {m : Mi} {l : List (List UInt8)} {b : Nat} (h : Cnt m l b) (hb : b < 1000000) (x : List UInt8) : Cnt (mset m x (IntKind.i64.wrap (mget m x 0 + 1))) (l ++ [x]) (b + 1) := by
  intro s
  obtain ⟨h1, h2, h3⟩ := h s
  obtain ⟨k1, k2, k3⟩ := h x
  rw [mget_mset, wrap64 (by omega)]
  by_cases e : s = x
  · subst e; rw [if_pos rfl]; exact ⟨by omega, by omega, by constructor; · simp
                                                            · intro _; omega⟩
  · rw [if_neg e]; refine ⟨h1, by omega, ?_⟩
    rw [h3]; simp [e]
theorem Cnt.has {m : Mi} {l : List (List UInt8)} {b : Nat} (h : Cnt m l b) (s : List UInt8) : decide (0 < mget m s 0) = l.contains s := by
  rw [Bool.eq_iff_iff, decide_eq_true_eq, List.contains_iff_mem]; exact (h s).2.2
theorem Cnt.no {m : Mi} {l : List (List UInt8)} {b : Nat} (h : Cnt m l b) (s : List UInt8) : (mget m s 0 == 0) = !l.contains s := by
  rw [← h.has s, Bool.eq_iff_iff, beq_iff_eq, Bool.not_eq_true', decide_eq_false_iff_not]
  have := (h s).1; omega
theorem take_snoc {α : Type} {l : List α} {i : Nat} {x : α} (h : l[i]? = some x) : l.take (i + 1) = l.take i ++ [x] := by rw [List.take_add_one, h]; rfl
def nmL (l : List Va) : List (List UInt8) := l.map S_api_Var.f_Name
def nmT (l : List Th) : List (List UInt8) := l.map S_api_Thread.f_Name
theorem nmL_at {l : List Va} {i : Nat} {x : Va} (h : l[i]? = some x) : (nmL l)[i]? = some x.f_Name := by rw [nmL, List.getElem?_map, h]; rfl
def locC (md : Int) (l : List Va) (i : Nat) : List Chk := match l[i]? with
  | some v => [(decide ((i : Int) < 6), 12, v.f_At), (!((nmL l).take i).contains v.f_Name, 10, v.f_At), (decide (v.f_N < md), 11, v.f_At)]
  | none => []
theorem vars_m (n : Nat) (md : Int) (l : List Va) (t : List Th) (c : List Cl) (ce ca : Int) (hl : l.length ≤ 5000) (hn : 5010 < n) : ∃ m, Cnt m (nmL l) l.length ∧ m_legal_checker_vars n md l t c ce ca [] [] = some ((foldN (ce, ca) (chF (locC md l) l.length 0)).1, (foldN (ce, ca) (chF (locC md l) l.length 0)).2, m) := by
  obtain ⟨n, rfl⟩ : ∃ j, n = j + 2 := ⟨n - 2, by omega⟩
  obtain ⟨s', ⟨a1, a2⟩, a3⟩ := fold_loop l.length (locC md l) (fun k i (s : Int × Int × Mi) => legal_checker_vars_L0 (n + 1) md l t c [] k (i : Int) s.1 s.2.1 s.2.2) (fun i c s => (s.1, s.2.1) = c ∧ Cnt s.2.2 ((nmL l).take i) i) (fun s => s)
    (fun k s c _ => by rw [legal_checker_vars_L0, bif_not (by omega)]) (fun k i s d hi hs => by
      obtain ⟨e, a, m⟩ := s
      obtain ⟨rfl, hm⟩ := hs
      dsimp only at hm
      have hx : l[i]? = some (l[i]'hi) := List.getElem?_eq_getElem hi
      generalize l[i]'hi = x at *
      refine ⟨((foldN (e, a) (locC md l i)).1, (foldN (e, a) (locC md l i)).2, mset m x.f_Name (IntKind.i64.wrap (mget m x.f_Name 0 + 1))), ⟨rfl, ?_⟩, ?_⟩
      · rw [take_snoc (nmL_at hx)]; exact hm.step (by omega) _
      · dsimp only
        rw [legal_checker_vars_L0, bif_decide (by omega), idx_some hx, Option.bind_some]
        simp only [must_m, Option.bind_some, wrap_one i (show i < 4611686018427387904 by omega), hm.no]
        rw [locC, hx]; rfl) l.length (n + 1) 0 (ce, ca, []) (ce, ca) (by omega) (by omega) ⟨rfl, Cnt.nil⟩
  rw [show ((0 : Nat) : Int) = 0 from rfl] at a3
  refine ⟨s'.2.2, ?_, ?_⟩
  · rw [List.take_of_length_le (by simp [nmL])] at a2; exact a2
  · rw [m_legal_checker_vars, a3, Option.bind_some, ← a1]
def regC (rg lo : List (List UInt8)) (a : Int) (i : Nat) : List Chk := match rg[i]? with
  | some r => [(!(rg.take i).contains r && !lo.contains r, 10, a)]
  | none => []
theorem regs_m (n : Nat) (th : Th) (md : Int) (l : List Va) (t : List Th) (c : List Cl) (ce ca : Int) (m1 : Mi) (m2 : Mm) {lo : List (List UInt8)} {b : Nat} (h1 : Cnt m1 lo b) (hl : th.f_Regs.length ≤ 5000) (hn : 5010 < n) : ∃ m, Cnt m th.f_Regs th.f_Regs.length ∧ legal_checker_thread_L0 n th md l t c m1 m2 n 0 ce ca [] = some (.out ((foldN (ce, ca) (chF (regC th.f_Regs lo th.f_At) th.f_Regs.length 0)).1, (foldN (ce, ca) (chF (regC th.f_Regs lo th.f_At) th.f_Regs.length 0)).2, m)) := by
  obtain ⟨n, rfl⟩ : ∃ j, n = j + 1 := ⟨n - 1, by omega⟩
  obtain ⟨s', ⟨a1, a2⟩, a3⟩ := fold_loop th.f_Regs.length (regC th.f_Regs lo th.f_At) (fun k i (s : Int × Int × Mi) => legal_checker_thread_L0 (n + 1) th md l t c m1 m2 k (i : Int) s.1 s.2.1 s.2.2) (fun i c s => (s.1, s.2.1) = c ∧ Cnt s.2.2 (th.f_Regs.take i) i) (fun s => s)
    (fun k s c _ => by rw [legal_checker_thread_L0, bif_not (by omega)]) (fun k i s d hi hs => by
      obtain ⟨e, a, m⟩ := s
      obtain ⟨rfl, hm⟩ := hs
      dsimp only at hm
      have hx : th.f_Regs[i]? = some (th.f_Regs[i]'hi) := List.getElem?_eq_getElem hi
      generalize th.f_Regs[i]'hi = x at *
      refine ⟨((foldN (e, a) (regC th.f_Regs lo th.f_At i)).1, (foldN (e, a) (regC th.f_Regs lo th.f_At i)).2, mset m x (IntKind.i64.wrap (mget m x 0 + 1))), ⟨rfl, ?_⟩, ?_⟩
      · rw [take_snoc hx]; exact hm.step (by omega) _
      · dsimp only
        have hb := hm x
        have e1 : (mget (mset m x (IntKind.i64.wrap (mget m x 0 + 1))) x 0 == 1) = !(th.f_Regs.take i).contains x := by
          rw [mget_mset, if_pos rfl, wrap64 (by omega), ← hm.no x, Bool.eq_iff_iff, beq_iff_eq, beq_iff_eq]; omega
        rw [legal_checker_thread_L0, bif_decide (by omega), idx_some hx, Option.bind_some, e1]
        simp only [must_m, Option.bind_some, wrap_one i (show i < 4611686018427387904 by omega), h1.no]
        rw [regC, hx]
        dsimp only
        cases (th.f_Regs.take i).contains x <;> rfl) th.f_Regs.length (n + 1) 0 (ce, ca, []) (ce, ca) (by omega) (by omega) ⟨rfl, Cnt.nil⟩
  rw [show ((0 : Nat) : Int) = 0 from rfl] at a3
  refine ⟨s'.2.2, ?_, ?_⟩
  · rw [List.take_of_length_le (Nat.le_refl _)] at a2; exact a2
  · rw [a3, ← a1]
def TM (m : Mm) (l : List Th) : Prop := ∀ s, mhas m s = (nmT l).contains s ∧ match l.find? (fun t => t.f_Name == s) with
  | some t => ∃ b, Cnt (mget m s []) t.f_Regs b
  | none => mget m s [] = []
theorem TM.nil : TM [] [] := fun s => ⟨rfl, rfl⟩
theorem find_none {l : List Th} {s : List UInt8} : l.find? (fun t => t.f_Name == s) = none ↔ (nmT l).contains s = false := by
  rw [List.find?_eq_none, ← Bool.not_eq_true, List.contains_iff_mem, nmT, List.mem_map]
  constructor
  · rintro h ⟨t, ht, e⟩; exact h t ht (by rw [e]; simp)
  · rintro h t ht e; exact h ⟨t, ht, by simpa using e⟩
theorem TM.step {m : Mm} {l : List Th} (h : TM m l) (t : Th) {r : Mi} {b : Nat} (hr : Cnt r t.f_Regs b) : TM (if mhas m t.f_Name then m else mset m t.f_Name r) (l ++ [t]) := by
  intro s
  obtain ⟨h1, h2⟩ := h s
  have hc : (nmT (l ++ [t])).contains s = ((nmT l).contains s || decide (s = t.f_Name)) := by
    rw [Bool.eq_iff_iff, List.contains_iff_mem, Bool.or_eq_true, List.contains_iff_mem, decide_eq_true_eq]; simp [nmT]
  rw [List.find?_append]
  by_cases c : mhas m t.f_Name = true
  · rw [if_pos c]
    refine ⟨?_, ?_⟩
    · rw [hc, h1]; by_cases e : s = t.f_Name
      · subst e; rw [← h1, c]; rfl
      · simp [e]
    · cases hf : l.find? (fun t => t.f_Name == s) with
      | some u => rw [hf] at h2; exact h2
      | none =>
        rw [hf] at h2
        have e : (t.f_Name == s) = false := by
          rw [beq_eq_false_iff_ne]; intro e
          have := find_none.1 hf
          rw [← h1, ← e, c] at this; cases this
        simp only [List.find?_cons, e, List.find?_nil, Option.none_or]
        exact h2
  · rw [if_neg c]
    refine ⟨?_, ?_⟩
    · rw [hc, mhas_mset, h1, Bool.or_comm]
    · rw [mget_mset]
      by_cases e : s = t.f_Name
      · subst e
        have hf : l.find? (fun u => u.f_Name == t.f_Name) = none := find_none.2 (by rw [← h1]; simpa using c)
        rw [hf, if_pos rfl]
        simp only [List.find?_cons, beq_self_eq_true, Option.none_or]
        exact ⟨b, hr⟩
      · rw [if_neg e]
        cases hf : l.find? (fun t => t.f_Name == s) with
        | some u => rw [hf] at h2; exact h2
        | none =>
          rw [hf] at h2
          simp only [List.find?_cons, beq_eq_false_iff_ne.2 (Ne.symm e), List.find?_nil, Option.none_or]
          exact h2
def thrC (md : Int) (lo : List (List UInt8)) (l : List Th) (i : Nat) : List Chk := match l[i]? with
  | some t => (decide ((i : Int) < 4), 12, t.f_At) :: (!((nmT l).take i).contains t.f_Name, 10, t.f_At) :: (decide (((t.f_Regs.length : Nat) : Int) ≤ 6), 12, t.f_At) :: (chF (regC t.f_Regs lo t.f_At) t.f_Regs.length 0 ++ chF (stC (fun x => t.f_Regs.contains x.f_Name) t.f_Regs.contains lo.contains md t.f_Body) t.f_Body.length 0)
  | none => []
theorem thread_m (n : Nat) (i : Nat) (th : Th) (md : Int) (l : List Va) (t : List Th) (c : List Cl) (ce ca : Int) (m1 : Mi) (m2 : Mm) {lo : List (List UInt8)} {b : Nat} (h1 : Cnt m1 lo b) (h2 : TM m2 (t.take i)) (hx : t[i]? = some th) (hr : th.f_Regs.length ≤ 5000) (hb : BodyOk th.f_Body) (hn : 5020 < n) :
    ∃ m2', TM m2' (t.take (i + 1)) ∧ m_legal_checker_thread n (i : Int) th md l t c ce ca m1 m2 = some ((foldN (ce, ca) (thrC md lo t i)).1, (foldN (ce, ca) (thrC md lo t i)).2, m2') := by
  obtain ⟨n, rfl⟩ : ∃ j, n = j + 2 := ⟨n - 2, by omega⟩
  have e2 : mhas m2 th.f_Name = ((nmT t).take i).contains th.f_Name := by rw [(h2 th.f_Name).1, nmT, nmT, List.map_take]
  obtain ⟨r, r1, r2⟩ := regs_m (n + 1) th md l t c (note (note (note (ce, ca) (decide ((i : Int) < 4), 12, th.f_At)) (!((nmT t).take i).contains th.f_Name, 10, th.f_At)) (decide (((th.f_Regs.length : Nat) : Int) ≤ 6), 12, th.f_At)).1 (note (note (note (ce, ca) (decide ((i : Int) < 4), 12, th.f_At)) (!((nmT t).take i).contains th.f_Name, 10, th.f_At)) (decide (((th.f_Regs.length : Nat) : Int) ≤ 6), 12, th.f_At)).2 m1 m2 h1 hr (by omega)
  refine ⟨if mhas m2 th.f_Name then m2 else mset m2 th.f_Name r, ?_, ?_⟩
  · rw [take_snoc hx]; exact h2.step th r1
  · rw [m_legal_checker_thread]
    simp only [must_m, Option.bind_some, e2]
    rw [r2]
    simp only [Option.bind_some]
    rw [body1_m (n + 1) th md l t c _ _ m1 m2 r hb (by omega), body2_m (n + 1) th md l t c _ _ m1 (mset m2 th.f_Name r) r hb (by omega)]
    simp only [Option.bind_some]
    have k1 : (fun s => decide (0 < mget r s 0)) = th.f_Regs.contains := funext fun s => r1.has s
    have k2 : (fun s => decide (0 < mget m1 s 0)) = lo.contains := funext fun s => h1.has s
    have k3 : knB r = fun x => th.f_Regs.contains x.f_Name := funext fun x => r1.has x.f_Name
    rw [k1, k2, k3, thrC, hx]
    simp only [foldN_cons, foldN_app]
    cases ((nmT t).take i).contains th.f_Name <;> rfl
def ofB (t : List Th) (x : Nd) : Bool := match t.find? (fun t => t.f_Name == x.f_In) with
  | some t => t.f_Regs.contains x.f_Name
  | none => false
def clN (lo : List (List UInt8)) (t : List Th) (x : Nd) : Bool := bif x.f_Op == 3 then lo.contains x.f_Name else ofB t x
def clmC (md : Int) (lo : List (List UInt8)) (t : List Th) (l : List Cl) (i : Nat) : List Chk := match l[i]? with
  | some c => (decide ((i : Int) < 8), 12, c.f_At) :: nodesC (clN lo t) md c.f_E
  | none => []
theorem knC_is {m1 : Mi} {m2 : Mm} {lo : List (List UInt8)} {b : Nat} {t : List Th} (h1 : Cnt m1 lo b) (h2 : TM m2 t) : knC m1 m2 = clN lo t := by
  funext x
  rw [knC, clN, h1.has]
  have h := (h2 x.f_In).2
  rw [ofB]
  cases hf : t.find? (fun t => t.f_Name == x.f_In) with
  | some u => rw [hf] at h; obtain ⟨b, h⟩ := h; rw [h.has]
  | none => rw [hf] at h; dsimp only at h; rw [h]; rfl
def checks (p : Pg) : List Chk := (decide (2 ≤ p.f_Mod ∧ p.f_Mod ≤ 16), 11, 0) :: (chF (locC p.f_Mod p.f_Locs) p.f_Locs.length 0 ++ (decide (0 < ((p.f_Threads.length : Nat) : Int)), 12, 0) :: (chF (thrC p.f_Mod (nmL p.f_Locs) p.f_Threads) p.f_Threads.length 0 ++ chF (clmC p.f_Mod (nmL p.f_Locs) p.f_Threads p.f_Claims) p.f_Claims.length 0))
theorem right_body {l : List St} (h : rightB l = true) (hx : ∀ x ∈ l, LightX x) : BodyOk l := by
  obtain ⟨F, f1, f2, _, f4, _⟩ := right_tree h
  have key : ∀ F : SF, F.wf → ∀ x ∈ F.flat, 0 ≤ x.f_Body ∧ x.f_Body ≤ (F.flat.length : Int) := by
    intro F
    induction F with
    | nil => intro _ x hx; cases hx
    | cons y a b r ia ib ir =>
      rintro ⟨h1, h2, ha, hb, hr⟩ x hx
      simp only [SF.flat, List.mem_cons, List.mem_append] at hx
      simp only [SF.flat, List.length_cons, List.length_append]
      rcases hx with rfl | hx | hx | hx
      · omega
      · have := ia ha x hx; omega
      · have := ib hb x hx; omega
      · have := ir hr x hx; omega
  refine ⟨by omega, fun x h => ?_⟩
  have := key F f1 x (by rw [f2]; exact h)
  rw [f2] at this
  obtain ⟨_, _, h3, h4⟩ := hx x h
  simp only [lightE, Bool.and_eq_true, decide_eq_true_eq] at h3 h4
  exact ⟨this.1, by omega, by omega, by omega⟩
theorem right_bodies {p : Pg} (hp : BoundP p) (h : rightP p = true) : ∀ t ∈ p.f_Threads, BodyOk t.f_Body := by
  intro t ht
  simp only [rightP, Bool.and_eq_true, List.all_eq_true] at h
  have := h.2.2.1 t ht
  simp only [thrOk, Bool.and_eq_true] at this
  exact right_body this.2.2.1 (hp.thr t ht).st
theorem L2_L0 (n : Nat) (p : Pg) (y : Int × Int × Mi) : ∀ (k : Nat) (i : Int) (m : Mm) (a b : Int), legal_Check_L2 n p y k i m a b = legal_Check_L0 n p y k i m a b := by
  intro k
  induction k with
  | zero => intros; rfl
  | succ k ih => intros; rw [legal_Check_L2, legal_Check_L0]; simp only [ih]
theorem L3_L1 (n : Nat) (p : Pg) (y : Int × Int × Mi) (q : Mm) : ∀ (k : Nat) (i : Int) (a b : Int), legal_Check_L3 n p y q k i a b = legal_Check_L1 n p y q k i a b := by
  intro k
  induction k with
  | zero => intros; rfl
  | succ k ih => intros; rw [legal_Check_L3, legal_Check_L1]; simp only [ih]
theorem threads_L (n : Nat) (p : Pg) (hp : BoundP p) (hb : ∀ t ∈ p.f_Threads, BodyOk t.f_Body) {m1 : Mi} {b : Nat} (h1 : Cnt m1 (nmL p.f_Locs) b) (a0 a1 : Int) (c : Int × Int) (hn : 5030 < n) : ∃ m2, TM m2 p.f_Threads ∧
    legal_Check_L0 n p (a0, a1, m1) n 0 [] c.1 c.2 = some (.out ((foldN c (chF (thrC p.f_Mod (nmL p.f_Locs) p.f_Threads) p.f_Threads.length 0)).1, (foldN c (chF (thrC p.f_Mod (nmL p.f_Locs) p.f_Threads) p.f_Threads.length 0)).2, m2)) := by
  have ht := hp.threads
  obtain ⟨s', ⟨a1, a2⟩, a3⟩ := fold_loop p.f_Threads.length (thrC p.f_Mod (nmL p.f_Locs) p.f_Threads) (fun k i (s : Int × Int × Mm) => legal_Check_L0 n p (a0, a1, m1) k (i : Int) s.2.2 s.1 s.2.1) (fun i c s => (s.1, s.2.1) = c ∧ TM s.2.2 (p.f_Threads.take i)) (fun s => s)
    (fun k s c _ => by rw [legal_Check_L0, bif_not (by omega)]) (fun k i s d hi hs => by
      obtain ⟨e, a, m⟩ := s
      obtain ⟨rfl, hm⟩ := hs
      dsimp only at hm
      have hx : p.f_Threads[i]? = some (p.f_Threads[i]'hi) := List.getElem?_eq_getElem hi
      have hmem := List.getElem_mem hi
      generalize p.f_Threads[i]'hi = x at *
      have hreg := (hp.thr x hmem).regs
      obtain ⟨m', t1, t2⟩ := thread_m n i x p.f_Mod p.f_Locs p.f_Threads p.f_Claims e a m1 m h1 hm hx (by omega) (hb x hmem) (by omega)
      refine ⟨((foldN (e, a) (thrC p.f_Mod (nmL p.f_Locs) p.f_Threads i)).1, (foldN (e, a) (thrC p.f_Mod (nmL p.f_Locs) p.f_Threads i)).2, m'), ⟨rfl, t1⟩, ?_⟩
      dsimp only
      rw [legal_Check_L0, bif_decide (by omega), idx_some hx, Option.bind_some, t2, Option.bind_some, wrap_one i (by omega)]) p.f_Threads.length n 0 (c.1, c.2, []) c (by omega) (by omega) ⟨rfl, TM.nil⟩
  rw [show ((0 : Nat) : Int) = 0 from rfl] at a3
  rw [List.take_of_length_le (Nat.le_refl _)] at a2
  refine ⟨s'.2.2, a2, ?_⟩
  rw [a3, ← a1]
theorem lclaim_m (n : Nat) (i : Nat) (x : Cl) (md : Int) (l : List Va) (t : List Th) (c : List Cl) (ce ca : Int) (m1 : Mi) (m2 : Mm) {lo : List (List UInt8)} {b : Nat} (h1 : Cnt m1 lo b) (h2 : TM m2 t) (hx : c[i]? = some x) (he : x.f_E.length ≤ 1000) (hn : 1020 < n) : m_legal_checker_claim n (i : Int) x md l t c ce ca m1 m2 = some (foldN (ce, ca) (clmC md lo t c i)) := by
  obtain ⟨n, rfl⟩ : ∃ j, n = j + 2 := ⟨n - 2, by omega⟩
  rw [m_legal_checker_claim, must_m, Option.bind_some]
  rw [nodes0_m (n + 1) x.f_E md l t c _ _ m1 m2 he (by omega), Option.bind_some, knC_is h1 h2, clmC, hx]
  rfl
theorem claims_L (n : Nat) (p : Pg) (hp : BoundP p) {m1 : Mi} {m2 : Mm} {b : Nat} (h1 : Cnt m1 (nmL p.f_Locs) b) (h2 : TM m2 p.f_Threads) (a0 a1 : Int) (c : Int × Int) (hn : 5030 < n) :
    legal_Check_L1 n p (a0, a1, m1) m2 n 0 c.1 c.2 = some (.out (foldN c (chF (clmC p.f_Mod (nmL p.f_Locs) p.f_Threads p.f_Claims) p.f_Claims.length 0))) := by
  have hc := hp.claims
  have he : ∀ x ∈ p.f_Claims, x.f_E.length ≤ 1000 := by
    intro x hx
    have := hp.cl x hx
    simp only [lightE, Bool.and_eq_true, decide_eq_true_eq] at this
    omega
  obtain ⟨s', a1, a3⟩ := fold_loop p.f_Claims.length (clmC p.f_Mod (nmL p.f_Locs) p.f_Threads p.f_Claims) (fun k i (s : Int × Int) => legal_Check_L1 n p (a0, a1, m1) m2 k (i : Int) s.1 s.2) (fun i c s => s = c) (fun s => s)
    (fun k s c _ => by rw [legal_Check_L1, bif_not (by omega)]) (fun k i s d hi hs => by
      subst hs
      have hx : p.f_Claims[i]? = some (p.f_Claims[i]'hi) := List.getElem?_eq_getElem hi
      have hmem := List.getElem_mem hi
      generalize p.f_Claims[i]'hi = x at *
      refine ⟨_, rfl, ?_⟩
      rw [legal_Check_L1, bif_decide (by omega), idx_some hx, Option.bind_some, lclaim_m n i x p.f_Mod p.f_Locs p.f_Threads p.f_Claims s.1 s.2 m1 m2 h1 h2 hx (he x hmem) (by omega), Option.bind_some, wrap_one i (by omega)]) p.f_Claims.length n 0 c c (by omega) (by omega) rfl
  subst a1; exact a3
theorem check_p (n : Nat) (p : Pg) (hp : BoundP p) (hn : 6100 < n) : m_legal_Check n p = some (bif rightP p then foldN (0, 0) (checks p) else (8, 0)) := by
  have hl := hp.locs
  obtain ⟨n, rfl⟩ : ∃ j, n = j + 2 := ⟨n - 2, by omega⟩
  rw [m_legal_Check, right_p (n + 1) p hp (by omega), Option.bind_some]
  cases hr : rightP p with
  | false => rfl
  | true =>
    have hb := right_bodies hp hr
    have main : ∀ c0 : Int × Int, ∃ m, Cnt m (nmL p.f_Locs) p.f_Locs.length ∧ m_legal_checker_vars (n + 1) p.f_Mod p.f_Locs p.f_Threads p.f_Claims c0.1 c0.2 [] [] = some ((foldN c0 (chF (locC p.f_Mod p.f_Locs) p.f_Locs.length 0)).1, (foldN c0 (chF (locC p.f_Mod p.f_Locs) p.f_Locs.length 0)).2, m) := fun c0 => vars_m (n + 1) p.f_Mod p.f_Locs p.f_Threads p.f_Claims c0.1 c0.2 (by omega) (by omega)
    rw [cond_true, cond_true]
    simp only [must_m, Option.bind_some]
    by_cases c : 2 ≤ p.f_Mod
    · rw [bif_decide c]
      obtain ⟨m, m1, m2⟩ := main (note (0, 0) (decide (p.f_Mod ≤ 16), 11, 0))
      rw [m2, Option.bind_some]
      dsimp only
      obtain ⟨q, q1, q2⟩ := threads_L (n + 1) p hp hb m1 (foldN (note (0, 0) (decide (p.f_Mod ≤ 16), 11, 0)) (chF (locC p.f_Mod p.f_Locs) p.f_Locs.length 0)).1 (foldN (note (0, 0) (decide (p.f_Mod ≤ 16), 11, 0)) (chF (locC p.f_Mod p.f_Locs) p.f_Locs.length 0)).2 (note (foldN (note (0, 0) (decide (p.f_Mod ≤ 16), 11, 0)) (chF (locC p.f_Mod p.f_Locs) p.f_Locs.length 0)) (decide (0 < ((p.f_Threads.length : Nat) : Int)), 12, 0)) (by omega)
      rw [q2, Option.bind_some]
      dsimp only
      rw [(claims_L (n + 1) p hp m1 q1 _ _ _ (by omega)), Option.bind_some, checks]
      simp only [foldN_cons, foldN_app, c, true_and]
    · rw [bif_not c]
      obtain ⟨m, m1, m2⟩ := main (note (0, 0) (false, 11, 0))
      rw [m2, Option.bind_some]
      dsimp only
      obtain ⟨q, q1, q2⟩ := threads_L (n + 1) p hp hb m1 (foldN (note (0, 0) (false, 11, 0)) (chF (locC p.f_Mod p.f_Locs) p.f_Locs.length 0)).1 (foldN (note (0, 0) (false, 11, 0)) (chF (locC p.f_Mod p.f_Locs) p.f_Locs.length 0)).2 (note (foldN (note (0, 0) (false, 11, 0)) (chF (locC p.f_Mod p.f_Locs) p.f_Locs.length 0)) (decide (0 < ((p.f_Threads.length : Nat) : Int)), 12, 0)) (by omega)
      rw [L2_L0, q2, Option.bind_some]
      dsimp only
      rw [L3_L1, (claims_L (n + 1) p hp m1 q1 _ _ _ (by omega)), Option.bind_some, checks]
      simp only [foldN_cons, foldN_app, c, false_and, decide_false]
end Go.Proofs.YtpnhafdimkmbbaaGreat
end
section
namespace Go.Proofs.YtpnhafdimkmbbaaGreat
set_option linter.unusedVariables false
set_option linter.unusedSimpArgs false
set_option maxRecDepth 10000
theorem ErL_nodes (kn : Nd → Bool) (md : Int) (l : List Nd) : ErL (nodesC kn md l) := by
  intro k hk
  obtain ⟨x, _, hx⟩ := List.mem_flatMap.1 hk
  unfold nodeC at hx
  revert hx
  cases x.f_Op == 1
  · cases x.f_Op == 2 || (x.f_Op == 3 || x.f_Op == 4)
    · intro h; cases h
    · intro h; rw [cond_false, cond_true, List.mem_singleton] at h; rw [h]; show (9 : Int) ≠ 0; decide
  · intro h; rw [cond_true, List.mem_singleton] at h; rw [h]; show (11 : Int) ≠ 0; decide
theorem badL_mem : ∀ (l : List Chk) (b : Int × Int), badL l = some b → ∃ k ∈ l, k.2 = b ∧ k.1 = false
  | [], b, h => by cases h
  | k :: l, b, h => by
    rw [badL] at h
    cases hk : k.1 with
    | true =>
      rw [hk] at h
      obtain ⟨q, q1, q2⟩ := badL_mem l b h
      exact ⟨q, List.mem_cons_of_mem _ q1, q2⟩
    | false => rw [hk] at h; exact ⟨k, List.mem_cons_self .., Option.some.inj h, hk⟩
theorem badL_ne {l : List Chk} (h : ErL l) {b : Int × Int} (e : badL l = some b) : (b.1 != 0) = true := by
  obtain ⟨k, k1, k2, _⟩ := badL_mem l b e
  rw [← k2, bne_iff_ne]; exact h k k1
theorem bad_cases (l : List Chk) (h : ErL l) : (badL l = none ∧ (badL l).getD (0, 0) = (0, 0)) ∨ ∃ b, badL l = some b ∧ (b.1 != 0) = true ∧ (badL l).getD (0, 0) = b := by
  cases hb : badL l with
  | none => exact .inl ⟨rfl, rfl⟩
  | some b => exact .inr ⟨b, rfl, badL_ne h hb, rfl⟩
end Go.Proofs.YtpnhafdimkmbbaaGreat
end
section
namespace Go.Proofs.YtpnhafdimkmbbaaGreat
set_option linter.unusedVariables false
set_option linter.unusedSimpArgs false
set_option maxRecDepth 10000
theorem ErL_ch (g : Nat → List Chk) (h : ∀ i, ErL (g i)) : ∀ m i, ErL (chF g m i)
  | 0, i => fun k hk => by cases hk
  | m + 1, i => fun k hk => by
    rw [chF, List.mem_append] at hk
    rcases hk with hk | hk
    · exact h i k hk
    · exact ErL_ch g h m (i + 1) k hk
theorem ErL_app {a b : List Chk} (h1 : ErL a) (h2 : ErL b) : ErL (a ++ b) := fun k hk => by
  rcases List.mem_append.1 hk with h | h
  · exact h1 k h
  · exact h2 k h
theorem ErL_cons {k : Chk} {b : List Chk} (h1 : k.2.1 ≠ 0) (h2 : ErL b) : ErL (k :: b) := fun q hq => by
  rcases List.mem_cons.1 hq with h | h
  · rw [h]; exact h1
  · exact h2 q h
theorem ErL_nil : ErL [] := fun k hk => by cases hk
theorem ErL_loc (md : Int) (l : List Va) (i : Nat) : ErL (locC md l i) := by
  unfold locC
  cases l[i]? with
  | none => exact ErL_nil
  | some v => exact ErL_cons (show (12 : Int) ≠ 0 by decide) (ErL_cons (show (10 : Int) ≠ 0 by decide) (ErL_cons (show (11 : Int) ≠ 0 by decide) ErL_nil))
theorem ErL_reg (rg lo : List (List UInt8)) (a : Int) (i : Nat) : ErL (regC rg lo a i) := by
  unfold regC
  cases rg[i]? with
  | none => exact ErL_nil
  | some r => exact ErL_cons (show (10 : Int) ≠ 0 by decide) ErL_nil
theorem ErL_st (rk : Nd → Bool) (rr lk : List UInt8 → Bool) (md : Int) (l : List St) (i : Nat) : ErL (stC rk rr lk md l i) := by
  unfold stC
  cases l[i]? with
  | none => exact ErL_nil
  | some x =>
    refine ErL_app ?_ (ErL_cons (show (9 : Int) ≠ 0 by decide) (ErL_cons (show (9 : Int) ≠ 0 by decide) (ErL_app (ErL_nodes _ _ _) (ErL_nodes _ _ _))))
    cases x.f_Kind == 13
    · exact ErL_nil
    · exact ErL_cons (show (13 : Int) ≠ 0 by decide) ErL_nil
theorem ErL_thr (md : Int) (lo : List (List UInt8)) (l : List Th) (i : Nat) : ErL (thrC md lo l i) := by
  unfold thrC
  cases l[i]? with
  | none => exact ErL_nil
  | some t => exact ErL_cons (show (12 : Int) ≠ 0 by decide) (ErL_cons (show (10 : Int) ≠ 0 by decide) (ErL_cons (show (12 : Int) ≠ 0 by decide) (ErL_app (ErL_ch _ (ErL_reg _ _ _) _ _) (ErL_ch _ (ErL_st _ _ _ _ _) _ _))))
theorem ErL_clm (md : Int) (lo : List (List UInt8)) (t : List Th) (l : List Cl) (i : Nat) : ErL (clmC md lo t l i) := by
  unfold clmC
  cases l[i]? with
  | none => exact ErL_nil
  | some c => exact ErL_cons (show (12 : Int) ≠ 0 by decide) (ErL_nodes _ _ _)
theorem ErL_checks (p : Pg) : ErL (checks p) := ErL_cons (show (11 : Int) ≠ 0 by decide) (ErL_app (ErL_ch _ (ErL_loc _ _) _ _) (ErL_cons (show (12 : Int) ≠ 0 by decide) (ErL_app (ErL_ch _ (ErL_thr _ _ _) _ _) (ErL_ch _ (ErL_clm _ _ _ _) _ _))))
def checkR (p : Pg) : Int × Int := bif rightP p then (badL (checks p)).getD (0, 0) else (8, 0)
theorem check_p2 (n : Nat) (p : Pg) (hp : BoundP p) (hn : 6100 < n) : m_legal_Check n p = some (checkR p) := by
  rw [check_p n p hp hn, checkR, foldN_bad _ _ (ErL_checks p)]; rfl
end Go.Proofs.YtpnhafdimkmbbaaGreat
end
section
namespace Go.Proofs.YtpnhafdimkmbbaaGreat
set_option linter.unusedVariables false
set_option linter.unusedSimpArgs false
set_option maxRecDepth 10000
def lgX (x : St) : Bool := !decide (100 < ((x.f_Reg.length : Nat) : Int)) && (!decide (100 < ((x.f_Loc.length : Nat) : Int)) && (lightE x.f_E && lightE x.f_F))
theorem lgX_is {x : St} (h : lgX x = true) : LightX x := by
  simp only [lgX, Bool.and_eq_true, Bool.not_eq_true', decide_eq_false_iff_not] at h
  exact ⟨by omega, by omega, h.2.2.1, h.2.2.2⟩
theorem light3_s (n : Nat) (l : List St) (hn : 400 < n) : m_ref03_Light n l = some (!decide (60 < ((l.length : Nat) : Int)) && l.all lgX) := by
  obtain ⟨n, rfl⟩ : ∃ j, n = j + 1 := ⟨n - 1, by omega⟩
  rw [m_ref03_Light]
  by_cases c : 60 < ((l.length : Nat) : Int)
  · rw [bif_decide c, decide_eq_true c]; rfl
  have hL : ref03_Light_L0 n l n 0 = bif l.all lgX then some (.out ()) else some (.ret false) := by
    refine all_list l (fun k i => ref03_Light_L0 n l k (i : Int)) _ (fun k => ?_) (fun k i x hi hx => ?_) (by omega)
    · rw [ref03_Light_L0, bif_not (by omega)]
    · rw [ref03_Light_L0, bif_decide (by omega)]
      simp only [idx_some hx, Option.bind_some, rlightE_m n x.f_E (by omega), rlightE_m n x.f_F (by omega), wrap_one i (show i < 4611686018427387904 by omega)]
      unfold lgX
      cases decide (100 < ((x.f_Reg.length : Nat) : Int)) <;> cases decide (100 < ((x.f_Loc.length : Nat) : Int)) <;> cases lightE x.f_E <;> cases lightE x.f_F <;> rfl
  rw [bif_not c, decide_eq_false c, hL]
  cases l.all lgX <;> rfl
def lgT (t : Th) : Bool := !decide (100 < ((t.f_Name.length : Nat) : Int)) && (!decide (20 < ((t.f_Regs.length : Nat) : Int)) && ((!decide (60 < ((t.f_Body.length : Nat) : Int)) && t.f_Body.all lgX) && t.f_Regs.all (fun r => !decide (100 < ((r.length : Nat) : Int)))))
def lgP (p : Pg) : Bool := !decide (20 < ((p.f_Locs.length : Nat) : Int)) && (!decide (8 < ((p.f_Threads.length : Nat) : Int)) && (!decide (12 < ((p.f_Claims.length : Nat) : Int)) && (p.f_Locs.all (fun v => !decide (100 < ((v.f_Name.length : Nat) : Int))) && (p.f_Threads.all lgT && p.f_Claims.all (fun c => lightE c.f_E)))))
theorem light4_m (n : Nat) (p : Pg) (hn : 1000 < n) : m_ref04_Light n p = some (lgP p) := by
  obtain ⟨n, rfl⟩ : ∃ j, n = j + 1 := ⟨n - 1, by omega⟩
  rw [m_ref04_Light, lgP]
  by_cases c1 : 20 < ((p.f_Locs.length : Nat) : Int)
  · rw [bif_decide c1, decide_eq_true c1]; rfl
  by_cases c2 : 8 < ((p.f_Threads.length : Nat) : Int)
  · rw [bif_not c1, bif_decide c2, decide_eq_true c2, decide_eq_false c1]; rfl
  by_cases c3 : 12 < ((p.f_Claims.length : Nat) : Int)
  · rw [bif_not c1, bif_not c2, bif_decide c3, decide_eq_true c3, decide_eq_false c1, decide_eq_false c2]; rfl
  have hA : ref04_Light_L0 n p n 0 = bif p.f_Locs.all (fun v => !decide (100 < ((v.f_Name.length : Nat) : Int))) then some (.out ()) else some (.ret false) := by
    refine all_list p.f_Locs (fun k i => ref04_Light_L0 n p k (i : Int)) _ (fun k => ?_) (fun k i x hi hx => ?_) (by omega)
    · rw [ref04_Light_L0, bif_not (by omega)]
    · rw [ref04_Light_L0, bif_decide (by omega), idx_some hx, Option.bind_some, wrap_one i (by omega)]
      cases decide (100 < ((x.f_Name.length : Nat) : Int)) <;> rfl
  have hB : ref04_Light_L1 n p n 0 = bif p.f_Threads.all lgT then some (.out ()) else some (.ret false) := by
    refine all_list p.f_Threads (fun k i => ref04_Light_L1 n p k (i : Int)) _ (fun k => ?_) (fun k i x hi hx => ?_) (by omega)
    · rw [ref04_Light_L1, bif_not (by omega)]
    · rw [ref04_Light_L1, bif_decide (by omega), idx_some hx, Option.bind_some, light3_s n x.f_Body (by omega), wrap_one i (by omega)]
      unfold lgT
      by_cases d2 : 20 < ((x.f_Regs.length : Nat) : Int)
      · rw [bif_decide d2, decide_eq_true d2]; cases decide (100 < ((x.f_Name.length : Nat) : Int)) <;> rfl
      have hR : ref04_Light_L2 n x n 0 = bif x.f_Regs.all (fun r => !decide (100 < ((r.length : Nat) : Int))) then some (.out ()) else some (.ret false) := by
        refine all_list x.f_Regs (fun k i => ref04_Light_L2 n x k (i : Int)) _ (fun k => ?_) (fun k i y hi hy => ?_) (by omega)
        · rw [ref04_Light_L2, bif_not (by omega)]
        · rw [ref04_Light_L2, bif_decide (by omega), idx_some hy, Option.bind_some, wrap_one i (by omega)]
          cases decide (100 < ((y.length : Nat) : Int)) <;> rfl
      rw [bif_not d2, decide_eq_false d2, hR]
      simp only [Option.bind_some]
      cases decide (100 < ((x.f_Name.length : Nat) : Int)) <;> cases (!decide (60 < ((x.f_Body.length : Nat) : Int)) && x.f_Body.all lgX) <;> cases x.f_Regs.all (fun r => !decide (100 < ((r.length : Nat) : Int))) <;> rfl
  have hC : ref04_Light_L3 n p n 0 = bif p.f_Claims.all (fun c => lightE c.f_E) then some (.out ()) else some (.ret false) := by
    refine all_list p.f_Claims (fun k i => ref04_Light_L3 n p k (i : Int)) _ (fun k => ?_) (fun k i x hi hx => ?_) (by omega)
    · rw [ref04_Light_L3, bif_not (by omega)]
    · rw [ref04_Light_L3, bif_decide (by omega), idx_some hx, Option.bind_some, rlightE_m n x.f_E (by omega), Option.bind_some, wrap_one i (by omega)]
  rw [bif_not c1, bif_not c2, bif_not c3, decide_eq_false c1, decide_eq_false c2, decide_eq_false c3, hA, hB, hC]
  cases p.f_Locs.all (fun v => !decide (100 < ((v.f_Name.length : Nat) : Int))) <;> cases p.f_Threads.all lgT <;> cases p.f_Claims.all (fun c => lightE c.f_E) <;> rfl
theorem lgP_bound {p : Pg} (h : lgP p = true) : BoundP p ∧ p.f_Locs.length ≤ 20 := by
  simp only [lgP, lgT, Bool.and_eq_true, Bool.not_eq_true', decide_eq_false_iff_not, List.all_eq_true] at h
  obtain ⟨h1, h2, h3, h4, h5, h6⟩ := h
  refine ⟨⟨by omega, by omega, by omega, fun v hv => ?_, fun t ht => ?_, h6⟩, by omega⟩
  · have := h4 v hv; omega
  · obtain ⟨a1, a2, ⟨a3, a4⟩, a5⟩ := h5 t ht
    exact ⟨by omega, by omega, fun r hr => by have := a5 r hr; omega, by omega, fun x hx => lgX_is (a4 x hx)⟩
def zN (x : Nd) : Nd := ⟨x.f_Op, x.f_N, x.f_Name, x.f_In, 0⟩
def zS (x : St) : St := ⟨x.f_Kind, x.f_Reg, x.f_Loc, x.f_E.map zN, x.f_F.map zN, x.f_Ne, x.f_Body, x.f_Else, 0⟩
def zV (v : Va) : Va := ⟨v.f_Name, v.f_N, 0⟩
def zT (t : Th) : Th := ⟨t.f_Name, t.f_Regs, t.f_Body.map zS, 0⟩
def zC (c : Cl) : Cl := ⟨c.f_Kind, c.f_E.map zN, 0⟩
def zP (p : Pg) : Pg := ⟨p.f_Mod, p.f_Locs.map zV, p.f_Threads.map zT, p.f_Claims.map zC⟩
theorem nodes_z (n : Nat) (l : List Nd) (hl : l.length ≤ 5000) (hn : 5010 < n) : m_ref04_nodes n l = some (l.map zN) := by
  obtain ⟨n, rfl⟩ : ∃ j, n = j + 1 := ⟨n - 1, by omega⟩
  have := map_list (ν := List Nd) l zN (fun k i s => ref04_nodes_L0 n l k (i : Int) s) (fun k s => by rw [ref04_nodes_L0, bif_not (by omega)]) (fun k i x s hi hx hs => by rw [ref04_nodes_L0, bif_decide (by omega), idx_some hx, Option.bind_some, bif_decide (by omega), wrap_one i (by omega)]; rfl) (k := n) (by omega)
  rw [show ((0 : Nat) : Int) = 0 from rfl] at this
  rw [m_ref04_nodes, this]; rfl
theorem bare_m (n : Nat) (p : Pg) (hp : BoundP p) (hn : 5100 < n) : m_ref04_Bare n p = some (zP p) := by
  have hl := hp.locs
  have ht := hp.threads
  have hc := hp.claims
  have len : ∀ {l : List Nd}, lightE l = true → l.length ≤ 5000 := fun h => by
    simp only [lightE, Bool.and_eq_true, decide_eq_true_eq] at h; omega
  obtain ⟨n, rfl⟩ : ∃ j, n = j + 1 := ⟨n - 1, by omega⟩
  have h1 := map_list (ν := Pg) p.f_Locs zV (fun k i s => ref04_Bare_L0 n p k (i : Int) s) (fun k s => by rw [ref04_Bare_L0, bif_not (by omega)]) (fun k i x s hi hx hs => by rw [ref04_Bare_L0, bif_decide (by omega), idx_some hx, Option.bind_some, bif_decide (by omega), wrap_one i (by omega)]; rfl) (k := n) (by omega)
  have h2 := map_list (ν := Pg) p.f_Threads zT (fun k i s => ref04_Bare_L1 n p k (i : Int) s) (fun k s => by rw [ref04_Bare_L1, bif_not (by omega)]) (fun k i x s hi hx hs => by
    have hb := hp.thr x (List.mem_of_getElem? hx)
    have hbb := hb.body
    have hbr := hb.regs
    have hB := map_list (ν := Pg) x.f_Body zS (fun k j s => ref04_Bare_L2 n p (i : Int) k (j : Int) s) (fun k s => by rw [ref04_Bare_L2, idx_some hx, Option.bind_some, bif_not (by omega)]) (fun k j y s hj hy hs => by
      obtain ⟨_, _, e3, e4⟩ := hb.st y (List.mem_of_getElem? hy)
      rw [ref04_Bare_L2, idx_some hx, Option.bind_some, bif_decide (by omega), Option.bind_some, idx_some hy, Option.bind_some, nodes_z n _ (len e3) (by omega), Option.bind_some, nodes_z n _ (len e4) (by omega), Option.bind_some, bif_decide (by omega), wrap_one j (by omega)]; rfl) (k := n) (by omega)
    rw [show ((0 : Nat) : Int) = 0 from rfl] at hB
    rw [ref04_Bare_L1, bif_decide (by omega), idx_some hx, Option.bind_some, Option.bind_some, bif_decide (by omega), hB, Option.bind_some]
    dsimp only
    rw [bif_decide (by omega), wrap_one i (by omega)]; rfl) (k := n) (by omega)
  have h3 := map_list (ν := Pg) p.f_Claims zC (fun k i s => ref04_Bare_L3 n p k (i : Int) s) (fun k s => by rw [ref04_Bare_L3, bif_not (by omega)]) (fun k i x s hi hx hs => by
    rw [ref04_Bare_L3, bif_decide (by omega), idx_some hx, Option.bind_some, Option.bind_some, nodes_z n _ (len (hp.cl x (List.mem_of_getElem? hx))) (by omega), Option.bind_some, bif_decide (by omega), wrap_one i (by omega)]; rfl) (k := n) (by omega)
  rw [show ((0 : Nat) : Int) = 0 from rfl] at h1 h2 h3
  rw [m_ref04_Bare, h1, h2, h3]; rfl
theorem lightE_z {l : List Nd} (h : lightE l = true) : lightE (l.map zN) = true := by
  simp only [lightE, Bool.and_eq_true, decide_eq_true_eq, List.all_eq_true, List.length_map] at h ⊢
  refine ⟨h.1, fun x hx => ?_⟩
  obtain ⟨y, hy, rfl⟩ := List.mem_map.1 hx
  exact h.2 y hy
theorem bound_z {p : Pg} (hp : BoundP p) : BoundP (zP p) := by
  refine ⟨?_, ?_, ?_, fun v hv => ?_, fun t ht => ?_, fun c hc => ?_⟩
  · rw [zP, List.length_map]; exact hp.locs
  · rw [zP, List.length_map]; exact hp.threads
  · rw [zP, List.length_map]; exact hp.claims
  · obtain ⟨w, hw, rfl⟩ := List.mem_map.1 hv; exact hp.loc w hw
  · obtain ⟨w, hw, rfl⟩ := List.mem_map.1 ht
    have h := hp.thr w hw
    refine ⟨h.name, h.regs, h.reg, by rw [zT, List.length_map]; exact h.body, fun x hx => ?_⟩
    obtain ⟨y, hy, rfl⟩ := List.mem_map.1 hx
    obtain ⟨a, b, c, d⟩ := h.st y hy
    exact ⟨a, b, lightE_z c, lightE_z d⟩
  · obtain ⟨w, hw, rfl⟩ := List.mem_map.1 hc; exact lightE_z (hp.cl w hw)
theorem endF_z : ∀ (l : List Nd) (w : Nat), endF (l.map zN) w = endF l w
  | [], w => rfl
  | x :: l, w => by rw [List.map_cons, endF, endF, endF_z l]; rfl
theorem depF_z : ∀ (l : List Nd) (s : Int × List Int), depF (l.map zN) s = depF l s
  | [], s => rfl
  | x :: l, (m, R) => by rw [List.map_cons, depF, depF, depF_z l, depF_z l]; rfl
theorem nodeOk_z {x : Nd} (h : nodeOk x = true) : nodeOk (zN x) = true := by
  simp only [nodeOk, Bool.and_eq_true] at h ⊢
  exact ⟨(show (!decide ((0 : Int) < 0)) = true by decide), h.2⟩
theorem exprOk_z {l : List Nd} (h : exprOk l = true) : exprOk (l.map zN) = true := by
  simp only [exprOk, Bool.and_eq_true, List.length_map, endF_z, depF_z] at h ⊢
  refine ⟨h.1, h.2.1, ?_, h.2.2.2⟩
  rw [List.all_eq_true] at h ⊢
  intro x hx
  obtain ⟨y, hy, rfl⟩ := List.mem_map.1 hx
  exact nodeOk_z (h.2.2.1 y hy)
theorem filter_z (l : List Nd) : (l.map zN).filter isName = (l.filter isName).map zN := by rw [List.filter_map]; rfl
theorem plnB_z (l : List Nd) : plnB (l.map zN) = plnB l := by
  unfold plnB; rw [filter_z, List.all_map]; rfl
theorem clB_z (l : List Nd) : clB (l.map zN) = clB l := by
  unfold clB; rw [filter_z, List.all_map]; rfl
theorem fL_z {f : List UInt8} {c : Int} {l : List Nd} (h : fL f c l = true) : fL f c (l.map zN) = true := by
  unfold fL at h ⊢
  split
  · rename_i hc
    rw [if_pos hc, Bool.and_eq_true] at h
    rw [Bool.and_eq_true]; exact ⟨by rw [plnB_z]; exact h.1, exprOk_z h.2⟩
  · rename_i hc
    rw [if_neg hc] at h
    rw [List.length_map]; exact h
theorem fits_z {x : St} (h : fitsB x = true) : fitsB (zS x) = true := by
  simp only [fitsB, Bool.and_eq_true] at h ⊢
  obtain ⟨h1, h2, h3, h4, h5, h6, h7, h8, h9⟩ := h
  exact ⟨h1, (show (!decide ((0 : Int) < 0)) = true by decide), h3, h4, h5, fL_z h6, fL_z h7, h8, h9⟩
theorem dF_z : ∀ (m : Nat) (l : List St), dF m (l.map zS) = dF m l
  | 0, l => rfl
  | m + 1, [] => rfl
  | m + 1, x :: t => by
    rw [List.map_cons, dF, dF]
    simp only [← List.map_take, ← List.map_drop, dF_z m, List.length_map]
    rfl
theorem rightB_z {l : List St} (h : rightB l = true) : rightB (l.map zS) = true := by
  unfold rightB at h ⊢
  rw [List.length_map, dF_z]
  cases hd : dF (l.length + 1) l with
  | none => rw [hd] at h; cases h
  | some z =>
    rw [hd] at h
    simp only [Bool.and_eq_true] at h ⊢
    refine ⟨h.1, h.2.1, ?_⟩
    rw [List.all_eq_true] at h ⊢
    intro x hx
    obtain ⟨y, hy, rfl⟩ := List.mem_map.1 hx
    exact fits_z (h.2.2 y hy)
theorem right_z {p : Pg} (h : rightP p = true) : rightP (zP p) = true := by
  simp only [rightP, Bool.and_eq_true, List.all_eq_true] at h ⊢
  obtain ⟨h1, h2, h3, h4⟩ := h
  refine ⟨h1, fun v hv => ?_, fun t ht => ?_, fun c hc => ?_⟩
  · obtain ⟨w, hw, rfl⟩ := List.mem_map.1 hv
    have := h2 w hw
    simp only [varOk, Bool.and_eq_true] at this ⊢
    exact ⟨this.1, this.2.1, (show decide ((0 : Int) ≤ 0) = true by decide)⟩
  · obtain ⟨w, hw, rfl⟩ := List.mem_map.1 ht
    have := h3 w hw
    simp only [thrOk, Bool.and_eq_true] at this ⊢
    exact ⟨this.1, (show decide ((0 : Int) ≤ 0) = true by decide), rightB_z this.2.2.1, this.2.2.2⟩
  · obtain ⟨w, hw, rfl⟩ := List.mem_map.1 hc
    have := h4 w hw
    simp only [clOk, Bool.and_eq_true] at this ⊢
    exact ⟨by show clB (w.f_E.map zN) = true; rw [clB_z]; exact this.1, this.2.1, exprOk_z this.2.2.1, (show decide ((0 : Int) ≤ 0) = true by decide)⟩
def zK (k : Chk) : Chk := (k.1, k.2.1, 0)
theorem badL_z : ∀ l : List Chk, badL (l.map zK) = (badL l).map fun b => (b.1, 0)
  | [] => rfl
  | k :: l => by
    rw [List.map_cons, badL, badL, badL_z l, zK]
    cases k.1 <;> rfl
theorem chF_z {g h : Nat → List Chk} (e : ∀ i, h i = (g i).map zK) : ∀ m i, chF h m i = (chF g m i).map zK
  | 0, i => rfl
  | m + 1, i => by rw [chF, chF, chF_z e m, e, List.map_append]
theorem nodesC_z (kn : Nd → Bool) (hk : ∀ x, kn (zN x) = kn x) (md : Int) (l : List Nd) : nodesC kn md (l.map zN) = (nodesC kn md l).map zK := by
  unfold nodesC
  rw [List.flatMap_map, List.map_flatMap]
  congr 1
  funext x
  unfold nodeC
  rw [hk]
  show (bif x.f_Op == 1 then [(decide (x.f_N < md), 11, 0)] else bif x.f_Op == 2 || (x.f_Op == 3 || x.f_Op == 4) then [(kn x, 9, 0)] else []) = _
  cases x.f_Op == 1 <;> cases (x.f_Op == 2 || (x.f_Op == 3 || x.f_Op == 4)) <;> rfl
theorem untl_z (l : List St) : ∀ i, untl (l.map zS) i = untl l i
  | 0 => rfl
  | i + 1 => by
    rw [untl, untl, untl_z l i, List.getElem?_map]
    cases l[i]? <;> rfl
theorem stC_z (rk : Nd → Bool) (hk : ∀ x, rk (zN x) = rk x) (rr lk : List UInt8 → Bool) (md : Int) (l : List St) (i : Nat) : stC rk rr lk md (l.map zS) i = (stC rk rr lk md l i).map zK := by
  unfold stC
  rw [untl_z, List.getElem?_map]
  cases l[i]? with
  | none => rfl
  | some x =>
    show (bif x.f_Kind == 13 then [(decide ((i : Int) < untl l i), 13, 0)] else []) ++ ((x.f_Reg == [] || rr x.f_Reg, 9, 0) :: (x.f_Loc == [] || lk x.f_Loc, 9, 0) :: (nodesC rk md (x.f_E.map zN) ++ nodesC rk md (x.f_F.map zN))) = _
    rw [nodesC_z rk hk, nodesC_z rk hk]
    dsimp only
    rw [List.map_append, List.map_cons, List.map_cons, List.map_append]
    cases x.f_Kind == 13 <;> rfl
theorem nmL_z (l : List Va) : nmL (l.map zV) = nmL l := by unfold nmL; rw [List.map_map]; rfl
theorem nmT_z (l : List Th) : nmT (l.map zT) = nmT l := by unfold nmT; rw [List.map_map]; rfl
theorem locC_z (md : Int) (l : List Va) (i : Nat) : locC md (l.map zV) i = (locC md l i).map zK := by
  unfold locC
  rw [nmL_z, List.getElem?_map]
  cases l[i]? <;> rfl
theorem regC_z (rg lo : List (List UInt8)) (a : Int) (i : Nat) : regC rg lo 0 i = (regC rg lo a i).map zK := by
  unfold regC
  cases rg[i]? <;> rfl
theorem thrC_z (md : Int) (lo : List (List UInt8)) (l : List Th) (i : Nat) : thrC md lo (l.map zT) i = (thrC md lo l i).map zK := by
  unfold thrC
  rw [nmT_z, List.getElem?_map]
  cases l[i]? with
  | none => rfl
  | some t =>
    show (decide ((i : Int) < 4), 12, 0) :: (!((nmT l).take i).contains t.f_Name, 10, 0) :: (decide (((t.f_Regs.length : Nat) : Int) ≤ 6), 12, 0) :: (chF (regC t.f_Regs lo 0) t.f_Regs.length 0 ++ chF (stC (fun x => t.f_Regs.contains x.f_Name) t.f_Regs.contains lo.contains md (t.f_Body.map zS)) (t.f_Body.map zS).length 0) = _
    dsimp only
    rw [List.length_map, chF_z (regC_z t.f_Regs lo t.f_At), chF_z (stC_z _ (fun _ => rfl) t.f_Regs.contains lo.contains md t.f_Body), List.map_cons, List.map_cons, List.map_cons, List.map_append]
    rfl
theorem ofB_z (t : List Th) (x : Nd) : ofB (t.map zT) x = ofB t x := by
  unfold ofB
  rw [List.find?_map]
  show (match (t.find? fun t => t.f_Name == x.f_In).map zT with | some t => t.f_Regs.contains x.f_Name | none => false) = _
  cases t.find? (fun t => t.f_Name == x.f_In) <;> rfl
theorem clN_z (lo : List (List UInt8)) (t : List Th) : clN lo (t.map zT) = clN lo t := by funext x; unfold clN; rw [ofB_z]
theorem clmC_z (md : Int) (lo : List (List UInt8)) (t : List Th) (l : List Cl) (i : Nat) : clmC md lo (t.map zT) (l.map zC) i = (clmC md lo t l i).map zK := by
  unfold clmC
  rw [clN_z, List.getElem?_map]
  cases l[i]? with
  | none => rfl
  | some c =>
    show (decide ((i : Int) < 8), 12, 0) :: nodesC (clN lo t) md (c.f_E.map zN) = _
    rw [nodesC_z _ (fun _ => rfl)]; rfl
theorem checks_z (p : Pg) : checks (zP p) = (checks p).map zK := by
  unfold checks zP
  dsimp only
  rw [nmL_z, List.length_map, List.length_map, List.length_map, chF_z (locC_z p.f_Mod p.f_Locs), chF_z (thrC_z p.f_Mod (nmL p.f_Locs) p.f_Threads), chF_z (clmC_z p.f_Mod (nmL p.f_Locs) p.f_Threads p.f_Claims)]
  rw [List.map_cons, List.map_append, List.map_cons, List.map_append]; rfl
theorem checkR_z {p : Pg} (h : rightP p = true) : checkR (zP p) = ((checkR p).1, 0) := by
  unfold checkR
  rw [h, right_z h, checks_z, badL_z, cond_true, cond_true]
  cases badL (checks p) <;> rfl
end Go.Proofs.YtpnhafdimkmbbaaGreat
end
section
namespace Go.Proofs.YtpnhafdimkmbbaaGreat
set_option linter.unusedVariables false
set_option linter.unusedSimpArgs false
set_option maxRecDepth 10000
theorem badL_none : ∀ l : List Chk, badL l = none ↔ ∀ k ∈ l, k.1 = true
  | [] => ⟨fun _ k hk => (by cases hk), fun _ => rfl⟩
  | k :: l => by
    rw [badL, List.forall_mem_cons, ← badL_none l]
    cases k.1 <;> simp
theorem mem_chF (g : Nat → List Chk) (k : Chk) : ∀ m i, k ∈ chF g m i ↔ ∃ j, i ≤ j ∧ j < i + m ∧ k ∈ g j
  | 0, i => by
    constructor
    · intro h; cases h
    · rintro ⟨j, h1, h2, _⟩; omega
  | m + 1, i => by
    rw [chF, List.mem_append, mem_chF g k m (i + 1)]
    constructor
    · rintro (h | ⟨j, h1, h2, h3⟩)
      · exact ⟨i, by omega, by omega, h⟩
      · exact ⟨j, by omega, by omega, h3⟩
    · rintro ⟨j, h1, h2, h3⟩
      by_cases e : j = i
      · rw [e] at h3; exact .inl h3
      · exact .inr ⟨j, by omega, by omega, h3⟩
def Good (p : Pg) : Prop := rightP p = true ∧ ∀ k ∈ checks p, k.1 = true
theorem check_good {p : Pg} (h : Good p) : checkR p = (0, 0) := by
  unfold checkR
  rw [h.1, (badL_none _).2 h.2]; rfl
theorem check_bad {p : Pg} (h : ¬ Good p) : ((checkR p).1 == 0) = false := by
  rw [beq_eq_false_iff_ne]
  unfold checkR
  cases hr : rightP p with
  | false => rw [cond_false]; decide
  | true =>
    rw [cond_true]
    rcases bad_cases _ (ErL_checks p) with ⟨e1, _⟩ | ⟨b, e1, e2, e3⟩
    · exact absurd ⟨hr, (badL_none _).1 e1⟩ h
    · rw [e3]; rw [bne_iff_ne] at e2; exact e2
theorem good_iff (p : Pg) : ((checkR p).1 = 0) ↔ Good p := by
  constructor
  · intro h
    by_cases g : Good p
    · exact g
    · have := check_bad g; rw [h] at this; cases this
  · intro h; rw [check_good h]
theorem mem_checks (p : Pg) (k : Chk) : k ∈ checks p ↔ k = (decide (2 ≤ p.f_Mod ∧ p.f_Mod ≤ 16), 11, 0) ∨ (∃ j, j < p.f_Locs.length ∧ k ∈ locC p.f_Mod p.f_Locs j) ∨ k = (decide (0 < ((p.f_Threads.length : Nat) : Int)), 12, 0) ∨ (∃ j, j < p.f_Threads.length ∧ k ∈ thrC p.f_Mod (nmL p.f_Locs) p.f_Threads j) ∨ ∃ j, j < p.f_Claims.length ∧ k ∈ clmC p.f_Mod (nmL p.f_Locs) p.f_Threads p.f_Claims j := by
  unfold checks
  rw [List.mem_cons, List.mem_append, List.mem_cons, List.mem_append, mem_chF, mem_chF, mem_chF]
  simp only [Nat.zero_le, true_and, Nat.zero_add]
def cutC (p : Pg) (n : Nat) : Pg := ⟨p.f_Mod, p.f_Locs, p.f_Threads, p.f_Claims.take n⟩
theorem bound_cut {p : Pg} (h : BoundP p) (n : Nat) : BoundP (cutC p n) := ⟨h.locs, h.threads, by have := h.claims; rw [cutC, List.length_take]; omega, h.loc, h.thr, fun c hc => h.cl c (List.mem_of_mem_take hc)⟩
theorem good_cut {p : Pg} (h : Good p) (n : Nat) : Good (cutC p n) := by
  obtain ⟨h1, h2⟩ := h
  constructor
  · simp only [rightP, Bool.and_eq_true, List.all_eq_true] at h1 ⊢
    exact ⟨h1.1, h1.2.1, h1.2.2.1, fun c hc => h1.2.2.2 c (List.mem_of_mem_take hc)⟩
  · intro k hk
    refine h2 k ?_
    rw [mem_checks] at hk ⊢
    rcases hk with hk | hk | hk | hk | ⟨j, hj, hk⟩
    · exact .inl hk
    · exact .inr (.inl hk)
    · exact .inr (.inr (.inl hk))
    · exact .inr (.inr (.inr (.inl hk)))
    · refine .inr (.inr (.inr (.inr ⟨j, ?_, ?_⟩)))
      · rw [cutC, List.length_take] at hj; omega
      · rw [cutC, List.length_take] at hj
        unfold clmC at hk ⊢
        have : (p.f_Claims.take n)[j]? = p.f_Claims[j]? := List.getElem?_take_of_lt (by omega)
        dsimp only [cutC] at hk
        rw [this] at hk; exact hk
theorem legalLess_k (k5 : m_law05_known 19999 = some true) (p : Pg) : m_law05_LegalLess 20000 p = some true := by
  rw [m_law05_LegalLess, light4_m _ p (by omega), Option.bind_some]
  cases h : lgP p with
  | false => rw [cond_false, k5]; rfl
  | true =>
    obtain ⟨hb, _⟩ := lgP_bound h
    rw [cond_true, check_p2 _ p hb (by omega), Option.bind_some, bare_m _ p hb (by omega), Option.bind_some, check_p2 _ _ (bound_z hb) (by omega), Option.bind_some, right_d _ p hb (by omega), Option.bind_some]
    have tail : (bif (checkR p).1 != 0 then (m_law05_known 19999).bind fun y16 => some y16 else (m_legal_Check 19999 (⟨p.f_Mod, p.f_Locs, p.f_Threads, []⟩ : Pg)).bind fun y18 => bif decide (0 < ((p.f_Claims.length : Nat) : Int)) then bif decide (0 ≤ IntKind.i64.wrap (((p.f_Claims.length : Nat) : Int) - 1)) && decide (IntKind.i64.wrap (((p.f_Claims.length : Nat) : Int) - 1) ≤ ((p.f_Claims.length : Nat) : Int)) then (m_legal_Check 19999 (⟨p.f_Mod, p.f_Locs, p.f_Threads, List.drop 0 (List.take (IntKind.i64.wrap (((p.f_Claims.length : Nat) : Int) - 1)).toNat p.f_Claims)⟩ : Pg)).bind fun y23 => bif y18.1 == 0 then bif y23.1 == 0 then (m_law05_known 19999).bind fun y27 => some y27 else some false else some false else none else (m_legal_Check 19999 (⟨p.f_Mod, p.f_Locs, p.f_Threads, []⟩ : Pg)).bind fun y29 => bif y18.1 == 0 then bif y29.1 == 0 then (m_law05_known 19999).bind fun y33 => some y33 else some false else some false) = some true := by
      rw [k5]
      by_cases e : (checkR p).1 = 0
      · have g := (good_iff p).1 e
        have hc := hb.claims
        rw [e]
        have c0 : (⟨p.f_Mod, p.f_Locs, p.f_Threads, []⟩ : Pg) = cutC p 0 := by rw [cutC, List.take_zero]
        rw [c0, check_p2 _ _ (bound_cut hb 0) (by omega), check_good (good_cut g 0)]
        by_cases d : 0 < ((p.f_Claims.length : Nat) : Int)
        · have w : IntKind.i64.wrap (((p.f_Claims.length : Nat) : Int) - 1) = ((p.f_Claims.length - 1 : Nat) : Int) := by rw [wrap64 (by omega)]; omega
          have c1 : (⟨p.f_Mod, p.f_Locs, p.f_Threads, List.drop 0 (List.take (IntKind.i64.wrap (((p.f_Claims.length : Nat) : Int) - 1)).toNat p.f_Claims)⟩ : Pg) = cutC p (p.f_Claims.length - 1) := by rw [w, cutC, List.drop_zero]; rfl
          rw [c1, check_p2 _ _ (bound_cut hb _) (by omega), check_good (good_cut g _), w, decide_eq_true d, decide_eq_true (show (0 : Int) ≤ ((p.f_Claims.length - 1 : Nat) : Int) by omega), decide_eq_true (show ((p.f_Claims.length - 1 : Nat) : Int) ≤ ((p.f_Claims.length : Nat) : Int) by omega)]
          rfl
        · rw [decide_eq_false d]; rfl
      · rw [bne_iff_ne.2 e]; rfl
    cases hr : rightP p with
    | true =>
      rw [checkR_z hr, cond_true, show ((checkR p).1 != ((checkR p).1, (0 : Int)).1) = false from bne_self_eq_false _, cond_false, show (((checkR p).1, (0 : Int)).2 != 0) = false from rfl, cond_false]
      exact tail
    | false => rw [cond_false]; exact tail
end Go.Proofs.YtpnhafdimkmbbaaGreat
end
section
namespace Go.Proofs.YtpnhafdimkmbbaaGreat
set_option linter.unusedVariables false
set_option maxRecDepth 100000
theorem known05 : m_law05_known 19999 = some true := by decide +kernel
theorem legalLess_m (p : S_api_Prog) : m_law05_LegalLess 20000 p = some true := legalLess_k known05 p
end Go.Proofs.YtpnhafdimkmbbaaGreat
end
section
namespace Go.Proofs.YtpnhafdimkmbbaaGreat
set_option linter.unusedVariables false
set_option linter.unusedSimpArgs false
set_option maxRecDepth 100000
set_option maxHeartbeats 4000000
theorem ok_legal_checker_must {n:Nat} ⦃v1_so:Bool⦄ ⦃v2_e:Int⦄ ⦃v3_at:Int⦄ ⦃c_p_Mod:Int⦄ ⦃c_p_Locs:(List S_api_Var)⦄ ⦃c_p_Threads:(List S_api_Thread)⦄ ⦃c_p_Claims:(List S_api_Claim)⦄ ⦃c_e:Int⦄ ⦃c_at:Int⦄ ⦃o1_m:(List ((List UInt8)×Int))⦄ ⦃o2_m:(List ((List UInt8)×(List ((List UInt8)×Int))))⦄ ⦃r:(Bool×Int×Int)⦄:m_legal_checker_must n v1_so v2_e v3_at c_p_Mod c_p_Locs c_p_Threads c_p_Claims c_e c_at o1_m o2_m=some r→CN n 18 [AV.ptr 0 0,bA v1_so,iA v2_e,iA v3_at] [Ob.var 52 [iA c_p_Mod,AV.sl 3 (List.map c_api_Var c_p_Locs),AV.sl 4 (List.map c_api_Thread c_p_Threads),AV.sl 3 (List.map c_api_Claim c_p_Claims),AV.mapp 1,AV.mapp 2,iA c_e,iA c_at],Ob.mp none false (List.map c_mp_map_string_int o1_m),Ob.mp none false (List.map c_mp_map_string_map_string_int o2_m)]=some (bA r.1,[Ob.var 52 [iA c_p_Mod,AV.sl 3 (List.map c_api_Var c_p_Locs),AV.sl 4 (List.map c_api_Thread c_p_Threads),AV.sl 3 (List.map c_api_Claim c_p_Claims),AV.mapp 1,AV.mapp 2,iA r.2.1,iA r.2.2],Ob.mp none false (List.map c_mp_map_string_int o1_m),Ob.mp none false (List.map c_mp_map_string_map_string_int o2_m)]):=by
 intro h;rcases n with _|n;cases h
 rw [m_legal_checker_must] at h
 refine callN_eq' Tryz.func18 (by rfl) rfl rfl (Nat.le_of_ble_eq_true rfl) ?_
 intro call hc;conv=>lhs;whnf
 revert h
 refine br ?_ ?_
 intro h;cases sj h
 try simp only [ls]
 exact fq (y:=some (bA ((c_e==0)),[Ob.var 52 [iA c_p_Mod,AV.sl 3 (List.map c_api_Var c_p_Locs),AV.sl 4 (List.map c_api_Thread c_p_Threads),AV.sl 3 (List.map c_api_Claim c_p_Claims),AV.mapp 1,AV.mapp 2,iA c_e,iA c_at],Ob.mp none false (List.map c_mp_map_string_int o1_m),Ob.mp none false (List.map c_mp_map_string_map_string_int o2_m)]))
 refine br ?_ ?_
 intro h;cases sj h
 try simp only [ls]
 exact fq (y:=some (bA ((v2_e==0)),[Ob.var 52 [iA c_p_Mod,AV.sl 3 (List.map c_api_Var c_p_Locs),AV.sl 4 (List.map c_api_Thread c_p_Threads),AV.sl 3 (List.map c_api_Claim c_p_Claims),AV.mapp 1,AV.mapp 2,iA v2_e,iA v3_at],Ob.mp none false (List.map c_mp_map_string_int o1_m),Ob.mp none false (List.map c_mp_map_string_map_string_int o2_m)]))
 intro h;cases sj h
 try simp only [ls]
 exact fq (y:=some (bA ((c_e==0)),[Ob.var 52 [iA c_p_Mod,AV.sl 3 (List.map c_api_Var c_p_Locs),AV.sl 4 (List.map c_api_Thread c_p_Threads),AV.sl 3 (List.map c_api_Claim c_p_Claims),AV.mapp 1,AV.mapp 2,iA c_e,iA c_at],Ob.mp none false (List.map c_mp_map_string_int o1_m),Ob.mp none false (List.map c_mp_map_string_map_string_int o2_m)]))
theorem ok_legal_checker_claim_1 {n:Nat} ⦃v0_y:S_api_Node⦄ ⦃o1_p_Mod:Int⦄ ⦃o1_p_Locs:(List S_api_Var)⦄ ⦃o1_p_Threads:(List S_api_Thread)⦄ ⦃o1_p_Claims:(List S_api_Claim)⦄ ⦃o1_e:Int⦄ ⦃o1_at:Int⦄ ⦃o2_m:(List ((List UInt8)×Int))⦄ ⦃o3_m:(List ((List UInt8)×(List ((List UInt8)×Int))))⦄ ⦃r:Bool⦄:m_legal_checker_claim_1 n v0_y o1_p_Mod o1_p_Locs o1_p_Threads o1_p_Claims o1_e o1_at o2_m o3_m=some r→CN n 41 [AV.agg [iA v0_y.f_Op,iA v0_y.f_N,sA v0_y.f_Name,sA v0_y.f_In,iA v0_y.f_At],AV.ptr 0 0] [Ob.var 48 [AV.ptr 1 0],Ob.var 52 [iA o1_p_Mod,AV.sl 3 (List.map c_api_Var o1_p_Locs),AV.sl 4 (List.map c_api_Thread o1_p_Threads),AV.sl 3 (List.map c_api_Claim o1_p_Claims),AV.mapp 2,AV.mapp 3,iA o1_e,iA o1_at],Ob.mp none false (List.map c_mp_map_string_int o2_m),Ob.mp none false (List.map c_mp_map_string_map_string_int o3_m)]=some (bA r,[Ob.var 48 [AV.ptr 1 0],Ob.var 52 [iA o1_p_Mod,AV.sl 3 (List.map c_api_Var o1_p_Locs),AV.sl 4 (List.map c_api_Thread o1_p_Threads),AV.sl 3 (List.map c_api_Claim o1_p_Claims),AV.mapp 2,AV.mapp 3,iA o1_e,iA o1_at],Ob.mp none false (List.map c_mp_map_string_int o2_m),Ob.mp none false (List.map c_mp_map_string_map_string_int o3_m)]):=by
 intro h;rcases n with _|n;cases h
 rw [m_legal_checker_claim_1] at h
 refine callN_eq' Tryz.func41 (by rfl) rfl rfl (Nat.le_of_ble_eq_true rfl) ?_
 intro call hc;conv=>lhs;whnf
 revert h
 refine br ?_ ?_
 intro h
 simp only [look_c_mp_map_string_int,ls]
 conv=>lhs;whnf
 revert h
 intro h;cases sj h
 try simp only [ls]
 exact fq (y:=some (bA (decide (0<(mget o2_m v0_y.f_Name 0))),[Ob.var 48 [AV.ptr 1 0],Ob.var 52 [iA o1_p_Mod,AV.sl 3 (List.map c_api_Var o1_p_Locs),AV.sl 4 (List.map c_api_Thread o1_p_Threads),AV.sl 3 (List.map c_api_Claim o1_p_Claims),AV.mapp 2,AV.mapp 3,iA o1_e,iA o1_at],Ob.mp none false (List.map c_mp_map_string_int o2_m),Ob.mp none false (List.map c_mp_map_string_map_string_int o3_m)]))
 intro h
 simp only [look_c_mp_map_string_map_string_int,ls]
 conv=>lhs;whnf
 revert h
 intro h
 simp only [look_c_mp_map_string_int,ls]
 conv=>lhs;whnf
 revert h
 intro h;cases sj h
 try simp only [ls]
 exact fq (y:=some (bA (decide (0<(mget (mget o3_m v0_y.f_In ([]:(List ((List UInt8)×Int)))) v0_y.f_Name 0))),[Ob.var 48 [AV.ptr 1 0],Ob.var 52 [iA o1_p_Mod,AV.sl 3 (List.map c_api_Var o1_p_Locs),AV.sl 4 (List.map c_api_Thread o1_p_Threads),AV.sl 3 (List.map c_api_Claim o1_p_Claims),AV.mapp 2,AV.mapp 3,iA o1_e,iA o1_at],Ob.mp none false (List.map c_mp_map_string_int o2_m),Ob.mp none false (List.map c_mp_map_string_map_string_int o3_m)]))
theorem ok_legal_checker_nodes {n:Nat} ⦃v1_l:(List S_api_Node)⦄ ⦃c_p_Mod:Int⦄ ⦃c_p_Locs:(List S_api_Var)⦄ ⦃c_p_Threads:(List S_api_Thread)⦄ ⦃c_p_Claims:(List S_api_Claim)⦄ ⦃c_e:Int⦄ ⦃c_at:Int⦄ ⦃o1_m:(List ((List UInt8)×Int))⦄ ⦃o2_m:(List ((List UInt8)×(List ((List UInt8)×Int))))⦄ ⦃r:(Int×Int)⦄:m_legal_checker_nodes n v1_l c_p_Mod c_p_Locs c_p_Threads c_p_Claims c_e c_at o1_m o2_m=some r→CN n 40 [AV.ptr 0 0,AV.sl 5 (List.map c_api_Node v1_l),AV.func 41 [] [AV.ptr 3 0]] [Ob.var 52 [iA c_p_Mod,AV.sl 3 (List.map c_api_Var c_p_Locs),AV.sl 4 (List.map c_api_Thread c_p_Threads),AV.sl 3 (List.map c_api_Claim c_p_Claims),AV.mapp 1,AV.mapp 2,iA c_e,iA c_at],Ob.mp none false (List.map c_mp_map_string_int o1_m),Ob.mp none false (List.map c_mp_map_string_map_string_int o2_m),Ob.var 48 [AV.ptr 0 0]]=some (AV.tup [],[Ob.var 52 [iA c_p_Mod,AV.sl 3 (List.map c_api_Var c_p_Locs),AV.sl 4 (List.map c_api_Thread c_p_Threads),AV.sl 3 (List.map c_api_Claim c_p_Claims),AV.mapp 1,AV.mapp 2,iA r.1,iA r.2],Ob.mp none false (List.map c_mp_map_string_int o1_m),Ob.mp none false (List.map c_mp_map_string_map_string_int o2_m),Ob.var 48 [AV.ptr 0 0]]):=by
 intro h;rcases n with _|n;cases h
 rw [m_legal_checker_nodes] at h
 refine callN_eq' Tryz.func40 (by rfl) rfl rfl (Nat.le_of_ble_eq_true rfl) ?_
 intro call hc;conv=>lhs;whnf
 revert h
 intro h;refine bind_some2 h ?_;clear h;intro o11 ho11 h
 refine lq (σ:=(Int×Int×Int)) (τ:=(Int×Int)) (ν:=(Int×Int)) 0 (fun (s1,s2,s3) a5=>stOf 42 [(0,AV.ptr 0 0),(2,AV.func 41 [] [AV.ptr 3 0]),(8,AV.sl 5 (List.map c_api_Node v1_l)),(9,iA (((v1_l.length:Nat):Int))),(10,iA s1)]) (fun (s1,s2,s3) a5=>[Ob.var 52 [iA c_p_Mod,AV.sl 3 (List.map c_api_Var c_p_Locs),AV.sl 4 (List.map c_api_Thread c_p_Threads),AV.sl 3 (List.map c_api_Claim c_p_Claims),AV.mapp 1,AV.mapp 2,iA s2,iA s3],Ob.mp none false (List.map c_mp_map_string_int o1_m),Ob.mp none false (List.map c_mp_map_string_map_string_int o2_m),Ob.var 48 [AV.ptr 0 0]]) (fun (x33,x34) a32=>stOf 42 []) (fun (x33,x34) a32=>[Ob.var 52 [iA c_p_Mod,AV.sl 3 (List.map c_api_Var c_p_Locs),AV.sl 4 (List.map c_api_Thread c_p_Threads),AV.sl 3 (List.map c_api_Claim c_p_Claims),AV.mapp 1,AV.mapp 2,iA x33,iA x34],Ob.mp none false (List.map c_mp_map_string_int o1_m),Ob.mp none false (List.map c_mp_map_string_map_string_int o2_m),Ob.var 48 [AV.ptr 0 0]]) (fun v=>(AV.tup [],[Ob.var 52 [iA c_p_Mod,AV.sl 3 (List.map c_api_Var c_p_Locs),AV.sl 4 (List.map c_api_Thread c_p_Threads),AV.sl 3 (List.map c_api_Claim c_p_Claims),AV.mapp 1,AV.mapp 2,iA v.1,iA v.2],Ob.mp none false (List.map c_mp_map_string_int o1_m),Ob.mp none false (List.map c_mp_map_string_map_string_int o2_m),Ob.var 48 [AV.ptr 0 0]])) (fun k s=>legal_checker_nodes_L0 n v1_l c_p_Mod c_p_Locs c_p_Threads c_p_Claims o1_m o2_m k s.1 s.2.1 s.2.2) (fun s=>rfl) o11 n (0,c_e,c_at) (fun _=>0) ho11 ?_ ?_
 intro k4 ss a5 K6 cont7 hK8 hcont9 h hr10
 obtain ⟨s1,s2,s3⟩:=ss
 replace h:legal_checker_nodes_L0 n v1_l c_p_Mod c_p_Locs c_p_Threads c_p_Claims o1_m o2_m (k4+1) s1 s2 s3=some o11:=h
 rw [legal_checker_nodes_L0] at h
 conv=>lhs;whnf
 revert h
 refine br ?_ ?_
 refine ix ?_;intro x13
 refine br ?_ ?_
 refine ca hc (fun _ h=>ok_legal_checker_must h) ?_;intro y15
 exact fun h=>cq (hcont9 (IntKind.i64.wrap (s1+1),y15.2.1,y15.2.2) (fun _=>0) h)
 refine br ?_ ?_
 refine ca hc (fun _ h=>ok_legal_checker_claim_1 h) ?_;intro y18
 refine ca hc (fun _ h=>ok_legal_checker_must h) ?_;intro y20
 exact fun h=>cq (hcont9 (IntKind.i64.wrap (s1+1),y20.2.1,y20.2.2) (fun _=>0) h)
 refine br ?_ ?_
 refine ca hc (fun _ h=>ok_legal_checker_claim_1 h) ?_;intro y23
 refine ca hc (fun _ h=>ok_legal_checker_must h) ?_;intro y25
 exact fun h=>cq (hcont9 (IntKind.i64.wrap (s1+1),y25.2.1,y25.2.2) (fun _=>0) h)
 refine br ?_ ?_
 refine ca hc (fun _ h=>ok_legal_checker_claim_1 h) ?_;intro y28
 refine ca hc (fun _ h=>ok_legal_checker_must h) ?_;intro y30
 exact fun h=>cq (hcont9 (IntKind.i64.wrap (s1+1),y30.2.1,y30.2.2) (fun _=>0) h)
 exact fun h=>cq (hcont9 (IntKind.i64.wrap (s1+1),s2,s3) (fun _=>0) h)
 intro h;cases sj h
 exact kq (hr10 (fun _=>0))
 refine lrc ?_ ?_
 intro v e;subst e;cases sj h;rfl
 intro t a32 e;subst e
 obtain ⟨x33,x34⟩:=t
 dsimp only at h
 conv=>lhs;whnf
 revert h
 intro h;cases sj h
 try simp only [ls]
 exact fq (y:=some (AV.tup [],[Ob.var 52 [iA c_p_Mod,AV.sl 3 (List.map c_api_Var c_p_Locs),AV.sl 4 (List.map c_api_Thread c_p_Threads),AV.sl 3 (List.map c_api_Claim c_p_Claims),AV.mapp 1,AV.mapp 2,iA x33,iA x34],Ob.mp none false (List.map c_mp_map_string_int o1_m),Ob.mp none false (List.map c_mp_map_string_map_string_int o2_m),Ob.var 48 [AV.ptr 0 0]]))
theorem ok_legal_checker_claim {n:Nat} ⦃v1_i:Int⦄ ⦃v2_x:S_api_Claim⦄ ⦃c_p_Mod:Int⦄ ⦃c_p_Locs:(List S_api_Var)⦄ ⦃c_p_Threads:(List S_api_Thread)⦄ ⦃c_p_Claims:(List S_api_Claim)⦄ ⦃c_e:Int⦄ ⦃c_at:Int⦄ ⦃o1_m:(List ((List UInt8)×Int))⦄ ⦃o2_m:(List ((List UInt8)×(List ((List UInt8)×Int))))⦄ ⦃r:(Int×Int)⦄:m_legal_checker_claim n v1_i v2_x c_p_Mod c_p_Locs c_p_Threads c_p_Claims c_e c_at o1_m o2_m=some r→CN n 21 [AV.ptr 0 0,iA v1_i,AV.agg [iA v2_x.f_Kind,AV.sl 5 (List.map c_api_Node v2_x.f_E),iA v2_x.f_At]] [Ob.var 52 [iA c_p_Mod,AV.sl 3 (List.map c_api_Var c_p_Locs),AV.sl 4 (List.map c_api_Thread c_p_Threads),AV.sl 3 (List.map c_api_Claim c_p_Claims),AV.mapp 1,AV.mapp 2,iA c_e,iA c_at],Ob.mp none false (List.map c_mp_map_string_int o1_m),Ob.mp none false (List.map c_mp_map_string_map_string_int o2_m)]=some (AV.tup [],[Ob.var 52 [iA c_p_Mod,AV.sl 3 (List.map c_api_Var c_p_Locs),AV.sl 4 (List.map c_api_Thread c_p_Threads),AV.sl 3 (List.map c_api_Claim c_p_Claims),AV.mapp 1,AV.mapp 2,iA r.1,iA r.2],Ob.mp none false (List.map c_mp_map_string_int o1_m),Ob.mp none false (List.map c_mp_map_string_map_string_int o2_m)]):=by
 intro h;rcases n with _|n;cases h
 rw [m_legal_checker_claim] at h
 refine callN_eq' Tryz.func21 (by rfl) rfl rfl (Nat.le_of_ble_eq_true rfl) ?_
 intro call hc;conv=>lhs;whnf
 revert h
 refine ca hc (fun _ h=>ok_legal_checker_must h) ?_;intro y1
 refine ca hc (fun _ h=>ok_legal_checker_nodes h) ?_;intro y3
 intro h;cases sj h
 try simp only [ls]
 exact fq (y:=some (AV.tup [],[Ob.var 52 [iA c_p_Mod,AV.sl 3 (List.map c_api_Var c_p_Locs),AV.sl 4 (List.map c_api_Thread c_p_Threads),AV.sl 3 (List.map c_api_Claim c_p_Claims),AV.mapp 1,AV.mapp 2,iA y3.1,iA y3.2],Ob.mp none false (List.map c_mp_map_string_int o1_m),Ob.mp none false (List.map c_mp_map_string_map_string_int o2_m)]))
theorem ok_legal_checker_body_1z {n:Nat} ⦃v0_x:S_api_Node⦄ ⦃o1_m:(List ((List UInt8)×Int))⦄ ⦃r:Bool⦄:m_legal_checker_body_1z n v0_x o1_m=some r→CN n 71 [AV.agg [iA v0_x.f_Op,iA v0_x.f_N,sA v0_x.f_Name,sA v0_x.f_In,iA v0_x.f_At],AV.ptr 0 0] [Ob.var 49 [AV.mapp 1],Ob.mp none false (List.map c_mp_map_string_int o1_m)]=some (bA r,[Ob.var 49 [AV.mapp 1],Ob.mp none false (List.map c_mp_map_string_int o1_m)]):=by
 intro h;rcases n with _|n;cases h
 rw [m_legal_checker_body_1z] at h
 refine callN_eq' Tryz.func71 (by rfl) rfl rfl (Nat.le_of_ble_eq_true rfl) ?_
 intro call hc;conv=>lhs;whnf
 revert h
 intro h
 simp only [look_c_mp_map_string_int,ls]
 conv=>lhs;whnf
 revert h
 intro h;cases sj h
 try simp only [ls]
 exact fq (y:=some (bA (decide (0<(mget o1_m v0_x.f_Name 0))),[Ob.var 49 [AV.mapp 1],Ob.mp none false (List.map c_mp_map_string_int o1_m)]))
theorem ok_legal_checker_nodes_1 {n:Nat} ⦃v1_l:(List S_api_Node)⦄ ⦃c_p_Mod:Int⦄ ⦃c_p_Locs:(List S_api_Var)⦄ ⦃c_p_Threads:(List S_api_Thread)⦄ ⦃c_p_Claims:(List S_api_Claim)⦄ ⦃c_e:Int⦄ ⦃c_at:Int⦄ ⦃o1_m:(List ((List UInt8)×Int))⦄ ⦃o2_m:(List ((List UInt8)×(List ((List UInt8)×Int))))⦄ ⦃o4_m:(List ((List UInt8)×Int))⦄ ⦃r:(Int×Int)⦄:m_legal_checker_nodes_1 n v1_l c_p_Mod c_p_Locs c_p_Threads c_p_Claims c_e c_at o1_m o2_m o4_m=some r→CN n 40 [AV.ptr 0 0,AV.sl 5 (List.map c_api_Node v1_l),AV.func 71 [] [AV.ptr 3 0]] [Ob.var 52 [iA c_p_Mod,AV.sl 3 (List.map c_api_Var c_p_Locs),AV.sl 4 (List.map c_api_Thread c_p_Threads),AV.sl 3 (List.map c_api_Claim c_p_Claims),AV.mapp 1,AV.mapp 2,iA c_e,iA c_at],Ob.mp none false (List.map c_mp_map_string_int o1_m),Ob.mp none false (List.map c_mp_map_string_map_string_int o2_m),Ob.var 49 [AV.mapp 4],Ob.mp none false (List.map c_mp_map_string_int o4_m)]=some (AV.tup [],[Ob.var 52 [iA c_p_Mod,AV.sl 3 (List.map c_api_Var c_p_Locs),AV.sl 4 (List.map c_api_Thread c_p_Threads),AV.sl 3 (List.map c_api_Claim c_p_Claims),AV.mapp 1,AV.mapp 2,iA r.1,iA r.2],Ob.mp none false (List.map c_mp_map_string_int o1_m),Ob.mp none false (List.map c_mp_map_string_map_string_int o2_m),Ob.var 49 [AV.mapp 4],Ob.mp none false (List.map c_mp_map_string_int o4_m)]):=by
 intro h;rcases n with _|n;cases h
 rw [m_legal_checker_nodes_1] at h
 refine callN_eq' Tryz.func40 (by rfl) rfl rfl (Nat.le_of_ble_eq_true rfl) ?_
 intro call hc;conv=>lhs;whnf
 revert h
 intro h;refine bind_some2 h ?_;clear h;intro o11 ho11 h
 refine lq (σ:=(Int×Int×Int)) (τ:=(Int×Int)) (ν:=(Int×Int)) 0 (fun (s1,s2,s3) a5=>stOf 42 [(0,AV.ptr 0 0),(2,AV.func 71 [] [AV.ptr 3 0]),(8,AV.sl 5 (List.map c_api_Node v1_l)),(9,iA (((v1_l.length:Nat):Int))),(10,iA s1)]) (fun (s1,s2,s3) a5=>[Ob.var 52 [iA c_p_Mod,AV.sl 3 (List.map c_api_Var c_p_Locs),AV.sl 4 (List.map c_api_Thread c_p_Threads),AV.sl 3 (List.map c_api_Claim c_p_Claims),AV.mapp 1,AV.mapp 2,iA s2,iA s3],Ob.mp none false (List.map c_mp_map_string_int o1_m),Ob.mp none false (List.map c_mp_map_string_map_string_int o2_m),Ob.var 49 [AV.mapp 4],Ob.mp none false (List.map c_mp_map_string_int o4_m)]) (fun (x33,x34) a32=>stOf 42 []) (fun (x33,x34) a32=>[Ob.var 52 [iA c_p_Mod,AV.sl 3 (List.map c_api_Var c_p_Locs),AV.sl 4 (List.map c_api_Thread c_p_Threads),AV.sl 3 (List.map c_api_Claim c_p_Claims),AV.mapp 1,AV.mapp 2,iA x33,iA x34],Ob.mp none false (List.map c_mp_map_string_int o1_m),Ob.mp none false (List.map c_mp_map_string_map_string_int o2_m),Ob.var 49 [AV.mapp 4],Ob.mp none false (List.map c_mp_map_string_int o4_m)]) (fun v=>(AV.tup [],[Ob.var 52 [iA c_p_Mod,AV.sl 3 (List.map c_api_Var c_p_Locs),AV.sl 4 (List.map c_api_Thread c_p_Threads),AV.sl 3 (List.map c_api_Claim c_p_Claims),AV.mapp 1,AV.mapp 2,iA v.1,iA v.2],Ob.mp none false (List.map c_mp_map_string_int o1_m),Ob.mp none false (List.map c_mp_map_string_map_string_int o2_m),Ob.var 49 [AV.mapp 4],Ob.mp none false (List.map c_mp_map_string_int o4_m)])) (fun k s=>legal_checker_nodes_1_L0 n v1_l c_p_Mod c_p_Locs c_p_Threads c_p_Claims o1_m o2_m o4_m k s.1 s.2.1 s.2.2) (fun s=>rfl) o11 n (0,c_e,c_at) (fun _=>0) ho11 ?_ ?_
 intro k4 ss a5 K6 cont7 hK8 hcont9 h hr10
 obtain ⟨s1,s2,s3⟩:=ss
 replace h:legal_checker_nodes_1_L0 n v1_l c_p_Mod c_p_Locs c_p_Threads c_p_Claims o1_m o2_m o4_m (k4+1) s1 s2 s3=some o11:=h
 rw [legal_checker_nodes_1_L0] at h
 conv=>lhs;whnf
 revert h
 refine br ?_ ?_
 refine ix ?_;intro x13
 refine br ?_ ?_
 refine ca hc (fun _ h=>ok_legal_checker_must h) ?_;intro y15
 exact fun h=>cq (hcont9 (IntKind.i64.wrap (s1+1),y15.2.1,y15.2.2) (fun _=>0) h)
 refine br ?_ ?_
 refine ca hc (fun _ h=>ok_legal_checker_body_1z h) ?_;intro y18
 refine ca hc (fun _ h=>ok_legal_checker_must h) ?_;intro y20
 exact fun h=>cq (hcont9 (IntKind.i64.wrap (s1+1),y20.2.1,y20.2.2) (fun _=>0) h)
 refine br ?_ ?_
 refine ca hc (fun _ h=>ok_legal_checker_body_1z h) ?_;intro y23
 refine ca hc (fun _ h=>ok_legal_checker_must h) ?_;intro y25
 exact fun h=>cq (hcont9 (IntKind.i64.wrap (s1+1),y25.2.1,y25.2.2) (fun _=>0) h)
 refine br ?_ ?_
 refine ca hc (fun _ h=>ok_legal_checker_body_1z h) ?_;intro y28
 refine ca hc (fun _ h=>ok_legal_checker_must h) ?_;intro y30
 exact fun h=>cq (hcont9 (IntKind.i64.wrap (s1+1),y30.2.1,y30.2.2) (fun _=>0) h)
 exact fun h=>cq (hcont9 (IntKind.i64.wrap (s1+1),s2,s3) (fun _=>0) h)
 intro h;cases sj h
 exact kq (hr10 (fun _=>0))
 refine lrc ?_ ?_
 intro v e;subst e;cases sj h;rfl
 intro t a32 e;subst e
 obtain ⟨x33,x34⟩:=t
 dsimp only at h
 conv=>lhs;whnf
 revert h
 intro h;cases sj h
 try simp only [ls]
 exact fq (y:=some (AV.tup [],[Ob.var 52 [iA c_p_Mod,AV.sl 3 (List.map c_api_Var c_p_Locs),AV.sl 4 (List.map c_api_Thread c_p_Threads),AV.sl 3 (List.map c_api_Claim c_p_Claims),AV.mapp 1,AV.mapp 2,iA x33,iA x34],Ob.mp none false (List.map c_mp_map_string_int o1_m),Ob.mp none false (List.map c_mp_map_string_map_string_int o2_m),Ob.var 49 [AV.mapp 4],Ob.mp none false (List.map c_mp_map_string_int o4_m)]))
theorem ok_legal_checker_body {n:Nat} ⦃v1_t:S_api_Thread⦄ ⦃c_p_Mod:Int⦄ ⦃c_p_Locs:(List S_api_Var)⦄ ⦃c_p_Threads:(List S_api_Thread)⦄ ⦃c_p_Claims:(List S_api_Claim)⦄ ⦃c_e:Int⦄ ⦃c_at:Int⦄ ⦃o1_m:(List ((List UInt8)×Int))⦄ ⦃o2_m:(List ((List UInt8)×(List ((List UInt8)×Int))))⦄ ⦃o3_m:(List ((List UInt8)×Int))⦄ ⦃r:(Int×Int)⦄:m_legal_checker_body n v1_t c_p_Mod c_p_Locs c_p_Threads c_p_Claims c_e c_at o1_m o2_m o3_m=some r→CN n 39 [AV.ptr 0 0,AV.agg [sA v1_t.f_Name,AV.sl 1 (List.map encS v1_t.f_Regs),AV.sl 9 (List.map c_api_Stmt v1_t.f_Body),iA v1_t.f_At],AV.mapp 3] [Ob.var 52 [iA c_p_Mod,AV.sl 3 (List.map c_api_Var c_p_Locs),AV.sl 4 (List.map c_api_Thread c_p_Threads),AV.sl 3 (List.map c_api_Claim c_p_Claims),AV.mapp 1,AV.mapp 2,iA c_e,iA c_at],Ob.mp none false (List.map c_mp_map_string_int o1_m),Ob.mp none false (List.map c_mp_map_string_map_string_int o2_m),Ob.mp none false (List.map c_mp_map_string_int o3_m)]=some (AV.tup [],[Ob.var 52 [iA c_p_Mod,AV.sl 3 (List.map c_api_Var c_p_Locs),AV.sl 4 (List.map c_api_Thread c_p_Threads),AV.sl 3 (List.map c_api_Claim c_p_Claims),AV.mapp 1,AV.mapp 2,iA r.1,iA r.2],Ob.mp none false (List.map c_mp_map_string_int o1_m),Ob.mp none false (List.map c_mp_map_string_map_string_int o2_m),Ob.mp none false (List.map c_mp_map_string_int o3_m)]):=by
 intro h;rcases n with _|n;cases h
 rw [m_legal_checker_body] at h
 refine callN_eq' Tryz.func39 (by rfl) rfl rfl (Nat.le_of_ble_eq_true rfl) ?_
 intro call hc;conv=>lhs;whnf
 revert h
 intro h;refine bind_some2 h ?_;clear h;intro o12 ho12 h
 refine lq (σ:=(Int×Int×Int×Int)) (τ:=(Int×Int)) (ν:=(Int×Int)) 0 (fun (s1,s2,s3,s4) a6=>stOf 82 [(0,AV.ptr 0 0),(5,AV.ptr 5 0),(6,iA s1),(7,AV.func 71 [] [AV.ptr 5 0]),(12,AV.sl 9 (List.map c_api_Stmt v1_t.f_Body)),(13,iA (((v1_t.f_Body.length:Nat):Int))),(14,iA s2)]) (fun (s1,s2,s3,s4) a6=>[Ob.var 52 [iA c_p_Mod,AV.sl 3 (List.map c_api_Var c_p_Locs),AV.sl 4 (List.map c_api_Thread c_p_Threads),AV.sl 3 (List.map c_api_Claim c_p_Claims),AV.mapp 1,AV.mapp 2,iA s3,iA s4],Ob.mp none false (List.map c_mp_map_string_int o1_m),Ob.mp none false (List.map c_mp_map_string_map_string_int o2_m),Ob.mp none false (List.map c_mp_map_string_int o3_m),Ob.var 40 [sA v1_t.f_Name,AV.sl 1 (List.map encS v1_t.f_Regs),AV.sl 9 (List.map c_api_Stmt v1_t.f_Body),iA v1_t.f_At],Ob.var 49 [AV.mapp 3]]) (fun (x145,x146) a144=>stOf 82 []) (fun (x145,x146) a144=>[Ob.var 52 [iA c_p_Mod,AV.sl 3 (List.map c_api_Var c_p_Locs),AV.sl 4 (List.map c_api_Thread c_p_Threads),AV.sl 3 (List.map c_api_Claim c_p_Claims),AV.mapp 1,AV.mapp 2,iA x145,iA x146],Ob.mp none false (List.map c_mp_map_string_int o1_m),Ob.mp none false (List.map c_mp_map_string_map_string_int o2_m),Ob.mp none false (List.map c_mp_map_string_int o3_m),Ob.var 40 [sA v1_t.f_Name,AV.sl 1 (List.map encS v1_t.f_Regs),AV.sl 9 (List.map c_api_Stmt v1_t.f_Body),iA v1_t.f_At],Ob.var 49 [AV.mapp 3]]) (fun v=>(AV.tup [],[Ob.var 52 [iA c_p_Mod,AV.sl 3 (List.map c_api_Var c_p_Locs),AV.sl 4 (List.map c_api_Thread c_p_Threads),AV.sl 3 (List.map c_api_Claim c_p_Claims),AV.mapp 1,AV.mapp 2,iA v.1,iA v.2],Ob.mp none false (List.map c_mp_map_string_int o1_m),Ob.mp none false (List.map c_mp_map_string_map_string_int o2_m),Ob.mp none false (List.map c_mp_map_string_int o3_m)])) (fun k s=>legal_checker_body_L0 n v1_t c_p_Mod c_p_Locs c_p_Threads c_p_Claims o1_m o2_m o3_m k s.1 s.2.1 s.2.2.1 s.2.2.2) (fun s=>rfl) o12 n (0,0,c_e,c_at) (fun _=>0) ho12 ?_ ?_
 intro k5 ss a6 K7 cont8 hK9 hcont10 h hr11
 obtain ⟨s1,s2,s3,s4⟩:=ss
 replace h:legal_checker_body_L0 n v1_t c_p_Mod c_p_Locs c_p_Threads c_p_Claims o1_m o2_m o3_m (k5+1) s1 s2 s3 s4=some o12:=h
 rw [legal_checker_body_L0] at h
 conv=>lhs;whnf
 revert h
 refine br ?_ ?_
 refine ix ?_;intro x14
 refine br ?_ ?_
 refine br ?_ ?_
 refine ca hc (fun _ h=>ok_legal_checker_must h) ?_;intro y17
 refine br ?_ ?_
 refine ca hc (fun _ h=>ok_legal_checker_must h) ?_;intro y20
 refine ca hc (fun _ h=>ok_legal_checker_nodes_1 h) ?_;intro y22
 refine ca hc (fun _ h=>ok_legal_checker_nodes_1 h) ?_;intro y24
 exact fun h=>cq (hcont10 ((if s1<(IntKind.i64.wrap ((IntKind.i64.wrap (s2+1))+x14.f_Body)) then (IntKind.i64.wrap ((IntKind.i64.wrap (s2+1))+x14.f_Body)) else s1),IntKind.i64.wrap (s2+1),y24.1,y24.2) (fun _=>0) h)
 intro h
 simp only [look_c_mp_map_string_int,ls]
 conv=>lhs;whnf
 revert h
 refine ca hc (fun _ h=>ok_legal_checker_must h) ?_;intro y26
 refine ca hc (fun _ h=>ok_legal_checker_nodes_1 h) ?_;intro y28
 refine ca hc (fun _ h=>ok_legal_checker_nodes_1 h) ?_;intro y30
 exact fun h=>cq (hcont10 ((if s1<(IntKind.i64.wrap ((IntKind.i64.wrap (s2+1))+x14.f_Body)) then (IntKind.i64.wrap ((IntKind.i64.wrap (s2+1))+x14.f_Body)) else s1),IntKind.i64.wrap (s2+1),y30.1,y30.2) (fun _=>0) h)
 intro h
 simp only [look_c_mp_map_string_int,ls]
 conv=>lhs;whnf
 revert h
 refine ca hc (fun _ h=>ok_legal_checker_must h) ?_;intro y32
 refine br ?_ ?_
 refine ca hc (fun _ h=>ok_legal_checker_must h) ?_;intro y35
 refine ca hc (fun _ h=>ok_legal_checker_nodes_1 h) ?_;intro y37
 refine ca hc (fun _ h=>ok_legal_checker_nodes_1 h) ?_;intro y39
 exact fun h=>cq (hcont10 ((if s1<(IntKind.i64.wrap ((IntKind.i64.wrap (s2+1))+x14.f_Body)) then (IntKind.i64.wrap ((IntKind.i64.wrap (s2+1))+x14.f_Body)) else s1),IntKind.i64.wrap (s2+1),y39.1,y39.2) (fun _=>0) h)
 intro h
 simp only [look_c_mp_map_string_int,ls]
 conv=>lhs;whnf
 revert h
 refine ca hc (fun _ h=>ok_legal_checker_must h) ?_;intro y41
 refine ca hc (fun _ h=>ok_legal_checker_nodes_1 h) ?_;intro y43
 refine ca hc (fun _ h=>ok_legal_checker_nodes_1 h) ?_;intro y45
 exact fun h=>cq (hcont10 ((if s1<(IntKind.i64.wrap ((IntKind.i64.wrap (s2+1))+x14.f_Body)) then (IntKind.i64.wrap ((IntKind.i64.wrap (s2+1))+x14.f_Body)) else s1),IntKind.i64.wrap (s2+1),y45.1,y45.2) (fun _=>0) h)
 refine br ?_ ?_
 refine br ?_ ?_
 refine ca hc (fun _ h=>ok_legal_checker_must h) ?_;intro y49
 refine br ?_ ?_
 refine ca hc (fun _ h=>ok_legal_checker_must h) ?_;intro y52
 refine ca hc (fun _ h=>ok_legal_checker_nodes_1 h) ?_;intro y54
 refine ca hc (fun _ h=>ok_legal_checker_nodes_1 h) ?_;intro y56
 exact fun h=>cq (hcont10 ((if s1<(IntKind.i64.wrap ((IntKind.i64.wrap (s2+1))+x14.f_Body)) then (IntKind.i64.wrap ((IntKind.i64.wrap (s2+1))+x14.f_Body)) else s1),IntKind.i64.wrap (s2+1),y56.1,y56.2) (fun _=>0) h)
 intro h
 simp only [look_c_mp_map_string_int,ls]
 conv=>lhs;whnf
 revert h
 refine ca hc (fun _ h=>ok_legal_checker_must h) ?_;intro y58
 refine ca hc (fun _ h=>ok_legal_checker_nodes_1 h) ?_;intro y60
 refine ca hc (fun _ h=>ok_legal_checker_nodes_1 h) ?_;intro y62
 exact fun h=>cq (hcont10 ((if s1<(IntKind.i64.wrap ((IntKind.i64.wrap (s2+1))+x14.f_Body)) then (IntKind.i64.wrap ((IntKind.i64.wrap (s2+1))+x14.f_Body)) else s1),IntKind.i64.wrap (s2+1),y62.1,y62.2) (fun _=>0) h)
 intro h
 simp only [look_c_mp_map_string_int,ls]
 conv=>lhs;whnf
 revert h
 refine ca hc (fun _ h=>ok_legal_checker_must h) ?_;intro y64
 refine br ?_ ?_
 refine ca hc (fun _ h=>ok_legal_checker_must h) ?_;intro y67
 refine ca hc (fun _ h=>ok_legal_checker_nodes_1 h) ?_;intro y69
 refine ca hc (fun _ h=>ok_legal_checker_nodes_1 h) ?_;intro y71
 exact fun h=>cq (hcont10 ((if s1<(IntKind.i64.wrap ((IntKind.i64.wrap (s2+1))+x14.f_Body)) then (IntKind.i64.wrap ((IntKind.i64.wrap (s2+1))+x14.f_Body)) else s1),IntKind.i64.wrap (s2+1),y71.1,y71.2) (fun _=>0) h)
 intro h
 simp only [look_c_mp_map_string_int,ls]
 conv=>lhs;whnf
 revert h
 refine ca hc (fun _ h=>ok_legal_checker_must h) ?_;intro y73
 refine ca hc (fun _ h=>ok_legal_checker_nodes_1 h) ?_;intro y75
 refine ca hc (fun _ h=>ok_legal_checker_nodes_1 h) ?_;intro y77
 exact fun h=>cq (hcont10 ((if s1<(IntKind.i64.wrap ((IntKind.i64.wrap (s2+1))+x14.f_Body)) then (IntKind.i64.wrap ((IntKind.i64.wrap (s2+1))+x14.f_Body)) else s1),IntKind.i64.wrap (s2+1),y77.1,y77.2) (fun _=>0) h)
 refine br ?_ ?_
 refine ca hc (fun _ h=>ok_legal_checker_must h) ?_;intro y80
 refine br ?_ ?_
 refine ca hc (fun _ h=>ok_legal_checker_must h) ?_;intro y83
 refine br ?_ ?_
 refine ca hc (fun _ h=>ok_legal_checker_must h) ?_;intro y86
 refine ca hc (fun _ h=>ok_legal_checker_nodes_1 h) ?_;intro y88
 refine ca hc (fun _ h=>ok_legal_checker_nodes_1 h) ?_;intro y90
 exact fun h=>cq (hcont10 (s1,IntKind.i64.wrap (s2+1),y90.1,y90.2) (fun _=>0) h)
 intro h
 simp only [look_c_mp_map_string_int,ls]
 conv=>lhs;whnf
 revert h
 refine ca hc (fun _ h=>ok_legal_checker_must h) ?_;intro y92
 refine ca hc (fun _ h=>ok_legal_checker_nodes_1 h) ?_;intro y94
 refine ca hc (fun _ h=>ok_legal_checker_nodes_1 h) ?_;intro y96
 exact fun h=>cq (hcont10 (s1,IntKind.i64.wrap (s2+1),y96.1,y96.2) (fun _=>0) h)
 intro h
 simp only [look_c_mp_map_string_int,ls]
 conv=>lhs;whnf
 revert h
 refine ca hc (fun _ h=>ok_legal_checker_must h) ?_;intro y98
 refine br ?_ ?_
 refine ca hc (fun _ h=>ok_legal_checker_must h) ?_;intro y101
 refine ca hc (fun _ h=>ok_legal_checker_nodes_1 h) ?_;intro y103
 refine ca hc (fun _ h=>ok_legal_checker_nodes_1 h) ?_;intro y105
 exact fun h=>cq (hcont10 (s1,IntKind.i64.wrap (s2+1),y105.1,y105.2) (fun _=>0) h)
 intro h
 simp only [look_c_mp_map_string_int,ls]
 conv=>lhs;whnf
 revert h
 refine ca hc (fun _ h=>ok_legal_checker_must h) ?_;intro y107
 refine ca hc (fun _ h=>ok_legal_checker_nodes_1 h) ?_;intro y109
 refine ca hc (fun _ h=>ok_legal_checker_nodes_1 h) ?_;intro y111
 exact fun h=>cq (hcont10 (s1,IntKind.i64.wrap (s2+1),y111.1,y111.2) (fun _=>0) h)
 refine br ?_ ?_
 refine ca hc (fun _ h=>ok_legal_checker_must h) ?_;intro y114
 refine br ?_ ?_
 refine ca hc (fun _ h=>ok_legal_checker_must h) ?_;intro y117
 refine ca hc (fun _ h=>ok_legal_checker_nodes_1 h) ?_;intro y119
 refine ca hc (fun _ h=>ok_legal_checker_nodes_1 h) ?_;intro y121
 exact fun h=>cq (hcont10 (s1,IntKind.i64.wrap (s2+1),y121.1,y121.2) (fun _=>0) h)
 intro h
 simp only [look_c_mp_map_string_int,ls]
 conv=>lhs;whnf
 revert h
 refine ca hc (fun _ h=>ok_legal_checker_must h) ?_;intro y123
 refine ca hc (fun _ h=>ok_legal_checker_nodes_1 h) ?_;intro y125
 refine ca hc (fun _ h=>ok_legal_checker_nodes_1 h) ?_;intro y127
 exact fun h=>cq (hcont10 (s1,IntKind.i64.wrap (s2+1),y127.1,y127.2) (fun _=>0) h)
 intro h
 simp only [look_c_mp_map_string_int,ls]
 conv=>lhs;whnf
 revert h
 refine ca hc (fun _ h=>ok_legal_checker_must h) ?_;intro y129
 refine br ?_ ?_
 refine ca hc (fun _ h=>ok_legal_checker_must h) ?_;intro y132
 refine ca hc (fun _ h=>ok_legal_checker_nodes_1 h) ?_;intro y134
 refine ca hc (fun _ h=>ok_legal_checker_nodes_1 h) ?_;intro y136
 exact fun h=>cq (hcont10 (s1,IntKind.i64.wrap (s2+1),y136.1,y136.2) (fun _=>0) h)
 intro h
 simp only [look_c_mp_map_string_int,ls]
 conv=>lhs;whnf
 revert h
 refine ca hc (fun _ h=>ok_legal_checker_must h) ?_;intro y138
 refine ca hc (fun _ h=>ok_legal_checker_nodes_1 h) ?_;intro y140
 refine ca hc (fun _ h=>ok_legal_checker_nodes_1 h) ?_;intro y142
 exact fun h=>cq (hcont10 (s1,IntKind.i64.wrap (s2+1),y142.1,y142.2) (fun _=>0) h)
 intro h;cases sj h
 exact kq (hr11 (fun _=>0))
 refine lrc ?_ ?_
 intro v e;subst e;cases sj h;rfl
 intro t a144 e;subst e
 obtain ⟨x145,x146⟩:=t
 dsimp only at h
 conv=>lhs;whnf
 revert h
 intro h;cases sj h
 try simp only [ls]
 exact fq (y:=some (AV.tup [],[Ob.var 52 [iA c_p_Mod,AV.sl 3 (List.map c_api_Var c_p_Locs),AV.sl 4 (List.map c_api_Thread c_p_Threads),AV.sl 3 (List.map c_api_Claim c_p_Claims),AV.mapp 1,AV.mapp 2,iA x145,iA x146],Ob.mp none false (List.map c_mp_map_string_int o1_m),Ob.mp none false (List.map c_mp_map_string_map_string_int o2_m),Ob.mp none false (List.map c_mp_map_string_int o3_m)]))
theorem ok_legal_checker_body_1_1 {n:Nat} ⦃v0_x:S_api_Node⦄ ⦃o1_m:(List ((List UInt8)×Int))⦄ ⦃r:Bool⦄:m_legal_checker_body_1_1 n v0_x o1_m=some r→CN n 71 [AV.agg [iA v0_x.f_Op,iA v0_x.f_N,sA v0_x.f_Name,sA v0_x.f_In,iA v0_x.f_At],AV.ptr 0 0] [Ob.var 49 [AV.mapp 1],Ob.mp none true (List.map c_mp_map_string_int o1_m)]=some (bA r,[Ob.var 49 [AV.mapp 1],Ob.mp none true (List.map c_mp_map_string_int o1_m)]):=by
 intro h;rcases n with _|n;cases h
 rw [m_legal_checker_body_1_1] at h
 refine callN_eq' Tryz.func71 (by rfl) rfl rfl (Nat.le_of_ble_eq_true rfl) ?_
 intro call hc;conv=>lhs;whnf
 revert h
 intro h
 simp only [look_c_mp_map_string_int,ls]
 conv=>lhs;whnf
 revert h
 intro h;cases sj h
 try simp only [ls]
 exact fq (y:=some (bA (decide (0<(mget o1_m v0_x.f_Name 0))),[Ob.var 49 [AV.mapp 1],Ob.mp none true (List.map c_mp_map_string_int o1_m)]))
theorem ok_legal_checker_nodes_2 {n:Nat} ⦃v1_l:(List S_api_Node)⦄ ⦃c_p_Mod:Int⦄ ⦃c_p_Locs:(List S_api_Var)⦄ ⦃c_p_Threads:(List S_api_Thread)⦄ ⦃c_p_Claims:(List S_api_Claim)⦄ ⦃c_e:Int⦄ ⦃c_at:Int⦄ ⦃o1_m:(List ((List UInt8)×Int))⦄ ⦃o2_m:(List ((List UInt8)×(List ((List UInt8)×Int))))⦄ ⦃o4_m:(List ((List UInt8)×Int))⦄ ⦃r:(Int×Int)⦄:m_legal_checker_nodes_2 n v1_l c_p_Mod c_p_Locs c_p_Threads c_p_Claims c_e c_at o1_m o2_m o4_m=some r→CN n 40 [AV.ptr 0 0,AV.sl 5 (List.map c_api_Node v1_l),AV.func 71 [] [AV.ptr 3 0]] [Ob.var 52 [iA c_p_Mod,AV.sl 3 (List.map c_api_Var c_p_Locs),AV.sl 4 (List.map c_api_Thread c_p_Threads),AV.sl 3 (List.map c_api_Claim c_p_Claims),AV.mapp 1,AV.mapp 2,iA c_e,iA c_at],Ob.mp none false (List.map c_mp_map_string_int o1_m),Ob.mp none false (List.map c_mp_map_string_map_string_int o2_m),Ob.var 49 [AV.mapp 4],Ob.mp none true (List.map c_mp_map_string_int o4_m)]=some (AV.tup [],[Ob.var 52 [iA c_p_Mod,AV.sl 3 (List.map c_api_Var c_p_Locs),AV.sl 4 (List.map c_api_Thread c_p_Threads),AV.sl 3 (List.map c_api_Claim c_p_Claims),AV.mapp 1,AV.mapp 2,iA r.1,iA r.2],Ob.mp none false (List.map c_mp_map_string_int o1_m),Ob.mp none false (List.map c_mp_map_string_map_string_int o2_m),Ob.var 49 [AV.mapp 4],Ob.mp none true (List.map c_mp_map_string_int o4_m)]):=by
 intro h;rcases n with _|n;cases h
 rw [m_legal_checker_nodes_2] at h
 refine callN_eq' Tryz.func40 (by rfl) rfl rfl (Nat.le_of_ble_eq_true rfl) ?_
 intro call hc;conv=>lhs;whnf
 revert h
 intro h;refine bind_some2 h ?_;clear h;intro o11 ho11 h
 refine lq (σ:=(Int×Int×Int)) (τ:=(Int×Int)) (ν:=(Int×Int)) 0 (fun (s1,s2,s3) a5=>stOf 42 [(0,AV.ptr 0 0),(2,AV.func 71 [] [AV.ptr 3 0]),(8,AV.sl 5 (List.map c_api_Node v1_l)),(9,iA (((v1_l.length:Nat):Int))),(10,iA s1)]) (fun (s1,s2,s3) a5=>[Ob.var 52 [iA c_p_Mod,AV.sl 3 (List.map c_api_Var c_p_Locs),AV.sl 4 (List.map c_api_Thread c_p_Threads),AV.sl 3 (List.map c_api_Claim c_p_Claims),AV.mapp 1,AV.mapp 2,iA s2,iA s3],Ob.mp none false (List.map c_mp_map_string_int o1_m),Ob.mp none false (List.map c_mp_map_string_map_string_int o2_m),Ob.var 49 [AV.mapp 4],Ob.mp none true (List.map c_mp_map_string_int o4_m)]) (fun (x33,x34) a32=>stOf 42 []) (fun (x33,x34) a32=>[Ob.var 52 [iA c_p_Mod,AV.sl 3 (List.map c_api_Var c_p_Locs),AV.sl 4 (List.map c_api_Thread c_p_Threads),AV.sl 3 (List.map c_api_Claim c_p_Claims),AV.mapp 1,AV.mapp 2,iA x33,iA x34],Ob.mp none false (List.map c_mp_map_string_int o1_m),Ob.mp none false (List.map c_mp_map_string_map_string_int o2_m),Ob.var 49 [AV.mapp 4],Ob.mp none true (List.map c_mp_map_string_int o4_m)]) (fun v=>(AV.tup [],[Ob.var 52 [iA c_p_Mod,AV.sl 3 (List.map c_api_Var c_p_Locs),AV.sl 4 (List.map c_api_Thread c_p_Threads),AV.sl 3 (List.map c_api_Claim c_p_Claims),AV.mapp 1,AV.mapp 2,iA v.1,iA v.2],Ob.mp none false (List.map c_mp_map_string_int o1_m),Ob.mp none false (List.map c_mp_map_string_map_string_int o2_m),Ob.var 49 [AV.mapp 4],Ob.mp none true (List.map c_mp_map_string_int o4_m)])) (fun k s=>legal_checker_nodes_2_L0 n v1_l c_p_Mod c_p_Locs c_p_Threads c_p_Claims o1_m o2_m o4_m k s.1 s.2.1 s.2.2) (fun s=>rfl) o11 n (0,c_e,c_at) (fun _=>0) ho11 ?_ ?_
 intro k4 ss a5 K6 cont7 hK8 hcont9 h hr10
 obtain ⟨s1,s2,s3⟩:=ss
 replace h:legal_checker_nodes_2_L0 n v1_l c_p_Mod c_p_Locs c_p_Threads c_p_Claims o1_m o2_m o4_m (k4+1) s1 s2 s3=some o11:=h
 rw [legal_checker_nodes_2_L0] at h
 conv=>lhs;whnf
 revert h
 refine br ?_ ?_
 refine ix ?_;intro x13
 refine br ?_ ?_
 refine ca hc (fun _ h=>ok_legal_checker_must h) ?_;intro y15
 exact fun h=>cq (hcont9 (IntKind.i64.wrap (s1+1),y15.2.1,y15.2.2) (fun _=>0) h)
 refine br ?_ ?_
 refine ca hc (fun _ h=>ok_legal_checker_body_1_1 h) ?_;intro y18
 refine ca hc (fun _ h=>ok_legal_checker_must h) ?_;intro y20
 exact fun h=>cq (hcont9 (IntKind.i64.wrap (s1+1),y20.2.1,y20.2.2) (fun _=>0) h)
 refine br ?_ ?_
 refine ca hc (fun _ h=>ok_legal_checker_body_1_1 h) ?_;intro y23
 refine ca hc (fun _ h=>ok_legal_checker_must h) ?_;intro y25
 exact fun h=>cq (hcont9 (IntKind.i64.wrap (s1+1),y25.2.1,y25.2.2) (fun _=>0) h)
 refine br ?_ ?_
 refine ca hc (fun _ h=>ok_legal_checker_body_1_1 h) ?_;intro y28
 refine ca hc (fun _ h=>ok_legal_checker_must h) ?_;intro y30
 exact fun h=>cq (hcont9 (IntKind.i64.wrap (s1+1),y30.2.1,y30.2.2) (fun _=>0) h)
 exact fun h=>cq (hcont9 (IntKind.i64.wrap (s1+1),s2,s3) (fun _=>0) h)
 intro h;cases sj h
 exact kq (hr10 (fun _=>0))
 refine lrc ?_ ?_
 intro v e;subst e;cases sj h;rfl
 intro t a32 e;subst e
 obtain ⟨x33,x34⟩:=t
 dsimp only at h
 conv=>lhs;whnf
 revert h
 intro h;cases sj h
 try simp only [ls]
 exact fq (y:=some (AV.tup [],[Ob.var 52 [iA c_p_Mod,AV.sl 3 (List.map c_api_Var c_p_Locs),AV.sl 4 (List.map c_api_Thread c_p_Threads),AV.sl 3 (List.map c_api_Claim c_p_Claims),AV.mapp 1,AV.mapp 2,iA x33,iA x34],Ob.mp none false (List.map c_mp_map_string_int o1_m),Ob.mp none false (List.map c_mp_map_string_map_string_int o2_m),Ob.var 49 [AV.mapp 4],Ob.mp none true (List.map c_mp_map_string_int o4_m)]))
theorem ok_legal_checker_body_1 {n:Nat} ⦃v1_t:S_api_Thread⦄ ⦃c_p_Mod:Int⦄ ⦃c_p_Locs:(List S_api_Var)⦄ ⦃c_p_Threads:(List S_api_Thread)⦄ ⦃c_p_Claims:(List S_api_Claim)⦄ ⦃c_e:Int⦄ ⦃c_at:Int⦄ ⦃o1_m:(List ((List UInt8)×Int))⦄ ⦃o2_m:(List ((List UInt8)×(List ((List UInt8)×Int))))⦄ ⦃o3_m:(List ((List UInt8)×Int))⦄ ⦃r:(Int×Int)⦄:m_legal_checker_body_1 n v1_t c_p_Mod c_p_Locs c_p_Threads c_p_Claims c_e c_at o1_m o2_m o3_m=some r→CN n 39 [AV.ptr 0 0,AV.agg [sA v1_t.f_Name,AV.sl 1 (List.map encS v1_t.f_Regs),AV.sl 9 (List.map c_api_Stmt v1_t.f_Body),iA v1_t.f_At],AV.mapp 3] [Ob.var 52 [iA c_p_Mod,AV.sl 3 (List.map c_api_Var c_p_Locs),AV.sl 4 (List.map c_api_Thread c_p_Threads),AV.sl 3 (List.map c_api_Claim c_p_Claims),AV.mapp 1,AV.mapp 2,iA c_e,iA c_at],Ob.mp none false (List.map c_mp_map_string_int o1_m),Ob.mp none false (List.map c_mp_map_string_map_string_int o2_m),Ob.mp none true (List.map c_mp_map_string_int o3_m)]=some (AV.tup [],[Ob.var 52 [iA c_p_Mod,AV.sl 3 (List.map c_api_Var c_p_Locs),AV.sl 4 (List.map c_api_Thread c_p_Threads),AV.sl 3 (List.map c_api_Claim c_p_Claims),AV.mapp 1,AV.mapp 2,iA r.1,iA r.2],Ob.mp none false (List.map c_mp_map_string_int o1_m),Ob.mp none false (List.map c_mp_map_string_map_string_int o2_m),Ob.mp none true (List.map c_mp_map_string_int o3_m)]):=by
 intro h;rcases n with _|n;cases h
 rw [m_legal_checker_body_1] at h
 refine callN_eq' Tryz.func39 (by rfl) rfl rfl (Nat.le_of_ble_eq_true rfl) ?_
 intro call hc;conv=>lhs;whnf
 revert h
 intro h;refine bind_some2 h ?_;clear h;intro o12 ho12 h
 refine lq (σ:=(Int×Int×Int×Int)) (τ:=(Int×Int)) (ν:=(Int×Int)) 0 (fun (s1,s2,s3,s4) a6=>stOf 82 [(0,AV.ptr 0 0),(5,AV.ptr 5 0),(6,iA s1),(7,AV.func 71 [] [AV.ptr 5 0]),(12,AV.sl 9 (List.map c_api_Stmt v1_t.f_Body)),(13,iA (((v1_t.f_Body.length:Nat):Int))),(14,iA s2)]) (fun (s1,s2,s3,s4) a6=>[Ob.var 52 [iA c_p_Mod,AV.sl 3 (List.map c_api_Var c_p_Locs),AV.sl 4 (List.map c_api_Thread c_p_Threads),AV.sl 3 (List.map c_api_Claim c_p_Claims),AV.mapp 1,AV.mapp 2,iA s3,iA s4],Ob.mp none false (List.map c_mp_map_string_int o1_m),Ob.mp none false (List.map c_mp_map_string_map_string_int o2_m),Ob.mp none true (List.map c_mp_map_string_int o3_m),Ob.var 40 [sA v1_t.f_Name,AV.sl 1 (List.map encS v1_t.f_Regs),AV.sl 9 (List.map c_api_Stmt v1_t.f_Body),iA v1_t.f_At],Ob.var 49 [AV.mapp 3]]) (fun (x145,x146) a144=>stOf 82 []) (fun (x145,x146) a144=>[Ob.var 52 [iA c_p_Mod,AV.sl 3 (List.map c_api_Var c_p_Locs),AV.sl 4 (List.map c_api_Thread c_p_Threads),AV.sl 3 (List.map c_api_Claim c_p_Claims),AV.mapp 1,AV.mapp 2,iA x145,iA x146],Ob.mp none false (List.map c_mp_map_string_int o1_m),Ob.mp none false (List.map c_mp_map_string_map_string_int o2_m),Ob.mp none true (List.map c_mp_map_string_int o3_m),Ob.var 40 [sA v1_t.f_Name,AV.sl 1 (List.map encS v1_t.f_Regs),AV.sl 9 (List.map c_api_Stmt v1_t.f_Body),iA v1_t.f_At],Ob.var 49 [AV.mapp 3]]) (fun v=>(AV.tup [],[Ob.var 52 [iA c_p_Mod,AV.sl 3 (List.map c_api_Var c_p_Locs),AV.sl 4 (List.map c_api_Thread c_p_Threads),AV.sl 3 (List.map c_api_Claim c_p_Claims),AV.mapp 1,AV.mapp 2,iA v.1,iA v.2],Ob.mp none false (List.map c_mp_map_string_int o1_m),Ob.mp none false (List.map c_mp_map_string_map_string_int o2_m),Ob.mp none true (List.map c_mp_map_string_int o3_m)])) (fun k s=>legal_checker_body_1_L0 n v1_t c_p_Mod c_p_Locs c_p_Threads c_p_Claims o1_m o2_m o3_m k s.1 s.2.1 s.2.2.1 s.2.2.2) (fun s=>rfl) o12 n (0,0,c_e,c_at) (fun _=>0) ho12 ?_ ?_
 intro k5 ss a6 K7 cont8 hK9 hcont10 h hr11
 obtain ⟨s1,s2,s3,s4⟩:=ss
 replace h:legal_checker_body_1_L0 n v1_t c_p_Mod c_p_Locs c_p_Threads c_p_Claims o1_m o2_m o3_m (k5+1) s1 s2 s3 s4=some o12:=h
 rw [legal_checker_body_1_L0] at h
 conv=>lhs;whnf
 revert h
 refine br ?_ ?_
 refine ix ?_;intro x14
 refine br ?_ ?_
 refine br ?_ ?_
 refine ca hc (fun _ h=>ok_legal_checker_must h) ?_;intro y17
 refine br ?_ ?_
 refine ca hc (fun _ h=>ok_legal_checker_must h) ?_;intro y20
 refine ca hc (fun _ h=>ok_legal_checker_nodes_2 h) ?_;intro y22
 refine ca hc (fun _ h=>ok_legal_checker_nodes_2 h) ?_;intro y24
 exact fun h=>cq (hcont10 ((if s1<(IntKind.i64.wrap ((IntKind.i64.wrap (s2+1))+x14.f_Body)) then (IntKind.i64.wrap ((IntKind.i64.wrap (s2+1))+x14.f_Body)) else s1),IntKind.i64.wrap (s2+1),y24.1,y24.2) (fun _=>0) h)
 intro h
 simp only [look_c_mp_map_string_int,ls]
 conv=>lhs;whnf
 revert h
 refine ca hc (fun _ h=>ok_legal_checker_must h) ?_;intro y26
 refine ca hc (fun _ h=>ok_legal_checker_nodes_2 h) ?_;intro y28
 refine ca hc (fun _ h=>ok_legal_checker_nodes_2 h) ?_;intro y30
 exact fun h=>cq (hcont10 ((if s1<(IntKind.i64.wrap ((IntKind.i64.wrap (s2+1))+x14.f_Body)) then (IntKind.i64.wrap ((IntKind.i64.wrap (s2+1))+x14.f_Body)) else s1),IntKind.i64.wrap (s2+1),y30.1,y30.2) (fun _=>0) h)
 intro h
 simp only [look_c_mp_map_string_int,ls]
 conv=>lhs;whnf
 revert h
 refine ca hc (fun _ h=>ok_legal_checker_must h) ?_;intro y32
 refine br ?_ ?_
 refine ca hc (fun _ h=>ok_legal_checker_must h) ?_;intro y35
 refine ca hc (fun _ h=>ok_legal_checker_nodes_2 h) ?_;intro y37
 refine ca hc (fun _ h=>ok_legal_checker_nodes_2 h) ?_;intro y39
 exact fun h=>cq (hcont10 ((if s1<(IntKind.i64.wrap ((IntKind.i64.wrap (s2+1))+x14.f_Body)) then (IntKind.i64.wrap ((IntKind.i64.wrap (s2+1))+x14.f_Body)) else s1),IntKind.i64.wrap (s2+1),y39.1,y39.2) (fun _=>0) h)
 intro h
 simp only [look_c_mp_map_string_int,ls]
 conv=>lhs;whnf
 revert h
 refine ca hc (fun _ h=>ok_legal_checker_must h) ?_;intro y41
 refine ca hc (fun _ h=>ok_legal_checker_nodes_2 h) ?_;intro y43
 refine ca hc (fun _ h=>ok_legal_checker_nodes_2 h) ?_;intro y45
 exact fun h=>cq (hcont10 ((if s1<(IntKind.i64.wrap ((IntKind.i64.wrap (s2+1))+x14.f_Body)) then (IntKind.i64.wrap ((IntKind.i64.wrap (s2+1))+x14.f_Body)) else s1),IntKind.i64.wrap (s2+1),y45.1,y45.2) (fun _=>0) h)
 refine br ?_ ?_
 refine br ?_ ?_
 refine ca hc (fun _ h=>ok_legal_checker_must h) ?_;intro y49
 refine br ?_ ?_
 refine ca hc (fun _ h=>ok_legal_checker_must h) ?_;intro y52
 refine ca hc (fun _ h=>ok_legal_checker_nodes_2 h) ?_;intro y54
 refine ca hc (fun _ h=>ok_legal_checker_nodes_2 h) ?_;intro y56
 exact fun h=>cq (hcont10 ((if s1<(IntKind.i64.wrap ((IntKind.i64.wrap (s2+1))+x14.f_Body)) then (IntKind.i64.wrap ((IntKind.i64.wrap (s2+1))+x14.f_Body)) else s1),IntKind.i64.wrap (s2+1),y56.1,y56.2) (fun _=>0) h)
 intro h
 simp only [look_c_mp_map_string_int,ls]
 conv=>lhs;whnf
 revert h
 refine ca hc (fun _ h=>ok_legal_checker_must h) ?_;intro y58
 refine ca hc (fun _ h=>ok_legal_checker_nodes_2 h) ?_;intro y60
 refine ca hc (fun _ h=>ok_legal_checker_nodes_2 h) ?_;intro y62
 exact fun h=>cq (hcont10 ((if s1<(IntKind.i64.wrap ((IntKind.i64.wrap (s2+1))+x14.f_Body)) then (IntKind.i64.wrap ((IntKind.i64.wrap (s2+1))+x14.f_Body)) else s1),IntKind.i64.wrap (s2+1),y62.1,y62.2) (fun _=>0) h)
 intro h
 simp only [look_c_mp_map_string_int,ls]
 conv=>lhs;whnf
 revert h
 refine ca hc (fun _ h=>ok_legal_checker_must h) ?_;intro y64
 refine br ?_ ?_
 refine ca hc (fun _ h=>ok_legal_checker_must h) ?_;intro y67
 refine ca hc (fun _ h=>ok_legal_checker_nodes_2 h) ?_;intro y69
 refine ca hc (fun _ h=>ok_legal_checker_nodes_2 h) ?_;intro y71
 exact fun h=>cq (hcont10 ((if s1<(IntKind.i64.wrap ((IntKind.i64.wrap (s2+1))+x14.f_Body)) then (IntKind.i64.wrap ((IntKind.i64.wrap (s2+1))+x14.f_Body)) else s1),IntKind.i64.wrap (s2+1),y71.1,y71.2) (fun _=>0) h)
 intro h
 simp only [look_c_mp_map_string_int,ls]
 conv=>lhs;whnf
 revert h
 refine ca hc (fun _ h=>ok_legal_checker_must h) ?_;intro y73
 refine ca hc (fun _ h=>ok_legal_checker_nodes_2 h) ?_;intro y75
 refine ca hc (fun _ h=>ok_legal_checker_nodes_2 h) ?_;intro y77
 exact fun h=>cq (hcont10 ((if s1<(IntKind.i64.wrap ((IntKind.i64.wrap (s2+1))+x14.f_Body)) then (IntKind.i64.wrap ((IntKind.i64.wrap (s2+1))+x14.f_Body)) else s1),IntKind.i64.wrap (s2+1),y77.1,y77.2) (fun _=>0) h)
 refine br ?_ ?_
 refine ca hc (fun _ h=>ok_legal_checker_must h) ?_;intro y80
 refine br ?_ ?_
 refine ca hc (fun _ h=>ok_legal_checker_must h) ?_;intro y83
 refine br ?_ ?_
 refine ca hc (fun _ h=>ok_legal_checker_must h) ?_;intro y86
 refine ca hc (fun _ h=>ok_legal_checker_nodes_2 h) ?_;intro y88
 refine ca hc (fun _ h=>ok_legal_checker_nodes_2 h) ?_;intro y90
 exact fun h=>cq (hcont10 (s1,IntKind.i64.wrap (s2+1),y90.1,y90.2) (fun _=>0) h)
 intro h
 simp only [look_c_mp_map_string_int,ls]
 conv=>lhs;whnf
 revert h
 refine ca hc (fun _ h=>ok_legal_checker_must h) ?_;intro y92
 refine ca hc (fun _ h=>ok_legal_checker_nodes_2 h) ?_;intro y94
 refine ca hc (fun _ h=>ok_legal_checker_nodes_2 h) ?_;intro y96
 exact fun h=>cq (hcont10 (s1,IntKind.i64.wrap (s2+1),y96.1,y96.2) (fun _=>0) h)
 intro h
 simp only [look_c_mp_map_string_int,ls]
 conv=>lhs;whnf
 revert h
 refine ca hc (fun _ h=>ok_legal_checker_must h) ?_;intro y98
 refine br ?_ ?_
 refine ca hc (fun _ h=>ok_legal_checker_must h) ?_;intro y101
 refine ca hc (fun _ h=>ok_legal_checker_nodes_2 h) ?_;intro y103
 refine ca hc (fun _ h=>ok_legal_checker_nodes_2 h) ?_;intro y105
 exact fun h=>cq (hcont10 (s1,IntKind.i64.wrap (s2+1),y105.1,y105.2) (fun _=>0) h)
 intro h
 simp only [look_c_mp_map_string_int,ls]
 conv=>lhs;whnf
 revert h
 refine ca hc (fun _ h=>ok_legal_checker_must h) ?_;intro y107
 refine ca hc (fun _ h=>ok_legal_checker_nodes_2 h) ?_;intro y109
 refine ca hc (fun _ h=>ok_legal_checker_nodes_2 h) ?_;intro y111
 exact fun h=>cq (hcont10 (s1,IntKind.i64.wrap (s2+1),y111.1,y111.2) (fun _=>0) h)
 refine br ?_ ?_
 refine ca hc (fun _ h=>ok_legal_checker_must h) ?_;intro y114
 refine br ?_ ?_
 refine ca hc (fun _ h=>ok_legal_checker_must h) ?_;intro y117
 refine ca hc (fun _ h=>ok_legal_checker_nodes_2 h) ?_;intro y119
 refine ca hc (fun _ h=>ok_legal_checker_nodes_2 h) ?_;intro y121
 exact fun h=>cq (hcont10 (s1,IntKind.i64.wrap (s2+1),y121.1,y121.2) (fun _=>0) h)
 intro h
 simp only [look_c_mp_map_string_int,ls]
 conv=>lhs;whnf
 revert h
 refine ca hc (fun _ h=>ok_legal_checker_must h) ?_;intro y123
 refine ca hc (fun _ h=>ok_legal_checker_nodes_2 h) ?_;intro y125
 refine ca hc (fun _ h=>ok_legal_checker_nodes_2 h) ?_;intro y127
 exact fun h=>cq (hcont10 (s1,IntKind.i64.wrap (s2+1),y127.1,y127.2) (fun _=>0) h)
 intro h
 simp only [look_c_mp_map_string_int,ls]
 conv=>lhs;whnf
 revert h
 refine ca hc (fun _ h=>ok_legal_checker_must h) ?_;intro y129
 refine br ?_ ?_
 refine ca hc (fun _ h=>ok_legal_checker_must h) ?_;intro y132
 refine ca hc (fun _ h=>ok_legal_checker_nodes_2 h) ?_;intro y134
 refine ca hc (fun _ h=>ok_legal_checker_nodes_2 h) ?_;intro y136
 exact fun h=>cq (hcont10 (s1,IntKind.i64.wrap (s2+1),y136.1,y136.2) (fun _=>0) h)
 intro h
 simp only [look_c_mp_map_string_int,ls]
 conv=>lhs;whnf
 revert h
 refine ca hc (fun _ h=>ok_legal_checker_must h) ?_;intro y138
 refine ca hc (fun _ h=>ok_legal_checker_nodes_2 h) ?_;intro y140
 refine ca hc (fun _ h=>ok_legal_checker_nodes_2 h) ?_;intro y142
 exact fun h=>cq (hcont10 (s1,IntKind.i64.wrap (s2+1),y142.1,y142.2) (fun _=>0) h)
 intro h;cases sj h
 exact kq (hr11 (fun _=>0))
 refine lrc ?_ ?_
 intro v e;subst e;cases sj h;rfl
 intro t a144 e;subst e
 obtain ⟨x145,x146⟩:=t
 dsimp only at h
 conv=>lhs;whnf
 revert h
 intro h;cases sj h
 try simp only [ls]
 exact fq (y:=some (AV.tup [],[Ob.var 52 [iA c_p_Mod,AV.sl 3 (List.map c_api_Var c_p_Locs),AV.sl 4 (List.map c_api_Thread c_p_Threads),AV.sl 3 (List.map c_api_Claim c_p_Claims),AV.mapp 1,AV.mapp 2,iA x145,iA x146],Ob.mp none false (List.map c_mp_map_string_int o1_m),Ob.mp none false (List.map c_mp_map_string_map_string_int o2_m),Ob.mp none true (List.map c_mp_map_string_int o3_m)]))
theorem ok_legal_checker_thread {n:Nat} ⦃v1_i:Int⦄ ⦃v2_t:S_api_Thread⦄ ⦃c_p_Mod:Int⦄ ⦃c_p_Locs:(List S_api_Var)⦄ ⦃c_p_Threads:(List S_api_Thread)⦄ ⦃c_p_Claims:(List S_api_Claim)⦄ ⦃c_e:Int⦄ ⦃c_at:Int⦄ ⦃o1_m:(List ((List UInt8)×Int))⦄ ⦃o2_m:(List ((List UInt8)×(List ((List UInt8)×Int))))⦄ ⦃r:(Int×Int×(List ((List UInt8)×(List ((List UInt8)×Int)))))⦄:m_legal_checker_thread n v1_i v2_t c_p_Mod c_p_Locs c_p_Threads c_p_Claims c_e c_at o1_m o2_m=some r→CN n 20 [AV.ptr 0 0,iA v1_i,AV.agg [sA v2_t.f_Name,AV.sl 1 (List.map encS v2_t.f_Regs),AV.sl 9 (List.map c_api_Stmt v2_t.f_Body),iA v2_t.f_At]] [Ob.var 52 [iA c_p_Mod,AV.sl 3 (List.map c_api_Var c_p_Locs),AV.sl 4 (List.map c_api_Thread c_p_Threads),AV.sl 3 (List.map c_api_Claim c_p_Claims),AV.mapp 1,AV.mapp 2,iA c_e,iA c_at],Ob.mp none false (List.map c_mp_map_string_int o1_m),Ob.mp none false (List.map c_mp_map_string_map_string_int o2_m)]=some (AV.tup [],[Ob.var 52 [iA c_p_Mod,AV.sl 3 (List.map c_api_Var c_p_Locs),AV.sl 4 (List.map c_api_Thread c_p_Threads),AV.sl 3 (List.map c_api_Claim c_p_Claims),AV.mapp 1,AV.mapp 2,iA r.1,iA r.2.1],Ob.mp none false (List.map c_mp_map_string_int o1_m),Ob.mp none false (List.map c_mp_map_string_map_string_int r.2.2)]):=by
 intro h;rcases n with _|n;cases h
 rw [m_legal_checker_thread] at h
 refine callN_eq' Tryz.func20 (by rfl) rfl rfl (Nat.le_of_ble_eq_true rfl) ?_
 intro call hc;conv=>lhs;whnf
 revert h
 intro h
 simp only [look_c_mp_map_string_map_string_int,has_c_mp_map_string_map_string_int,ls]
 conv=>lhs;whnf
 revert h
 refine ca hc (fun _ h=>ok_legal_checker_must h) ?_;intro y1
 refine ca hc (fun _ h=>ok_legal_checker_must h) ?_;intro y3
 refine cr hc (fun _ h=>ok_legal_checker_must h) ?_;intro y5
 intro h;refine bind_some2 h ?_;clear h;intro o18 ho18 h
 refine lq (σ:=(Int×Int×Int×(List ((List UInt8)×Int)))) (τ:=(Int×Int×(List ((List UInt8)×Int)))) (ν:=(Int×Int×(List ((List UInt8)×(List ((List UInt8)×Int)))))) 0 (fun (s7,s8,s9,s10) a12=>stOf 84 [(0,AV.ptr 0 0),(5,AV.ptr 3 0),(7,bA ((mhas o2_m v2_t.f_Name))),(8,AV.mapp 4),(43,AV.sl 1 (List.map encS v2_t.f_Regs)),(44,iA (((v2_t.f_Regs.length:Nat):Int))),(45,iA s7)]) (fun (s7,s8,s9,s10) a12=>[Ob.var 52 [iA c_p_Mod,AV.sl 3 (List.map c_api_Var c_p_Locs),AV.sl 4 (List.map c_api_Thread c_p_Threads),AV.sl 3 (List.map c_api_Claim c_p_Claims),AV.mapp 1,AV.mapp 2,iA s8,iA s9],Ob.mp none false (List.map c_mp_map_string_int o1_m),Ob.mp none false (List.map c_mp_map_string_map_string_int o2_m),Ob.var 40 [sA v2_t.f_Name,AV.sl 1 (List.map encS v2_t.f_Regs),AV.sl 9 (List.map c_api_Stmt v2_t.f_Body),iA v2_t.f_At],Ob.mp none false (List.map c_mp_map_string_int s10)]) (fun (x28,x29,x30) a27=>stOf 84 [(0,AV.ptr 0 0),(5,AV.ptr 3 0),(7,bA ((mhas o2_m v2_t.f_Name))),(8,AV.mapp 4)]) (fun (x28,x29,x30) a27=>[Ob.var 52 [iA c_p_Mod,AV.sl 3 (List.map c_api_Var c_p_Locs),AV.sl 4 (List.map c_api_Thread c_p_Threads),AV.sl 3 (List.map c_api_Claim c_p_Claims),AV.mapp 1,AV.mapp 2,iA x28,iA x29],Ob.mp none false (List.map c_mp_map_string_int o1_m),Ob.mp none false (List.map c_mp_map_string_map_string_int o2_m),Ob.var 40 [sA v2_t.f_Name,AV.sl 1 (List.map encS v2_t.f_Regs),AV.sl 9 (List.map c_api_Stmt v2_t.f_Body),iA v2_t.f_At],Ob.mp none false (List.map c_mp_map_string_int x30)]) (fun v=>(AV.tup [],[Ob.var 52 [iA c_p_Mod,AV.sl 3 (List.map c_api_Var c_p_Locs),AV.sl 4 (List.map c_api_Thread c_p_Threads),AV.sl 3 (List.map c_api_Claim c_p_Claims),AV.mapp 1,AV.mapp 2,iA v.1,iA v.2.1],Ob.mp none false (List.map c_mp_map_string_int o1_m),Ob.mp none false (List.map c_mp_map_string_map_string_int v.2.2)])) (fun k s=>legal_checker_thread_L0 n v2_t c_p_Mod c_p_Locs c_p_Threads c_p_Claims o1_m o2_m k s.1 s.2.1 s.2.2.1 s.2.2.2) (fun s=>rfl) o18 n (0,y5.2.1,y5.2.2,([]:(List ((List UInt8)×Int)))) (fun _=>0) ho18 ?_ ?_
 intro k11 ss a12 K13 cont14 hK15 hcont16 h hr17
 obtain ⟨s7,s8,s9,s10⟩:=ss
 replace h:legal_checker_thread_L0 n v2_t c_p_Mod c_p_Locs c_p_Threads c_p_Claims o1_m o2_m (k11+1) s7 s8 s9 s10=some o18:=h
 rw [legal_checker_thread_L0] at h
 conv=>lhs;whnf
 revert h
 refine br ?_ ?_
 refine ix ?_;intro x20
 intro h
 simp only [look_c_mp_map_string_int,ls]
 conv=>lhs;whnf
 revert h
 intro h
 have hs21:mpSet (List.map c_mp_map_string_int s10) (sA x20) (iA (IntKind.i64.wrap ((mget s10 x20 0)+1)))=List.map c_mp_map_string_int (mset s10 x20 (IntKind.i64.wrap ((mget s10 x20 0)+1))):=set_c_mp_map_string_int _ _ _
 try simp only [hs21]
 conv=>lhs;whnf
 revert h
 intro h
 simp only [look_c_mp_map_string_int,ls]
 conv=>lhs;whnf
 revert h
 refine br ?_ ?_
 intro h
 simp only [look_c_mp_map_string_int,ls]
 conv=>lhs;whnf
 revert h
 refine ca hc (fun _ h=>ok_legal_checker_must h) ?_;intro y23
 exact fun h=>cq (hcont16 (IntKind.i64.wrap (s7+1),y23.2.1,y23.2.2,(mset s10 x20 (IntKind.i64.wrap ((mget s10 x20 0)+1)))) (fun _=>0) h)
 refine ca hc (fun _ h=>ok_legal_checker_must h) ?_;intro y25
 exact fun h=>cq (hcont16 (IntKind.i64.wrap (s7+1),y25.2.1,y25.2.2,(mset s10 x20 (IntKind.i64.wrap ((mget s10 x20 0)+1)))) (fun _=>0) h)
 intro h;cases sj h
 exact kq (hr17 (fun _=>0))
 refine lrc ?_ ?_
 intro v e;subst e;cases sj h;rfl
 intro t a27 e;subst e
 obtain ⟨x28,x29,x30⟩:=t
 dsimp only at h
 conv=>lhs;whnf
 revert h
 refine br ?_ ?_
 refine ca hc (fun _ h=>ok_legal_checker_body h) ?_;intro y32
 intro h;cases sj h
 try simp only [ls]
 exact fq (y:=some (AV.tup [],[Ob.var 52 [iA c_p_Mod,AV.sl 3 (List.map c_api_Var c_p_Locs),AV.sl 4 (List.map c_api_Thread c_p_Threads),AV.sl 3 (List.map c_api_Claim c_p_Claims),AV.mapp 1,AV.mapp 2,iA y32.1,iA y32.2],Ob.mp none false (List.map c_mp_map_string_int o1_m),Ob.mp none false (List.map c_mp_map_string_map_string_int o2_m)]))
 intro h
 have hs34:mpSet (List.map c_mp_map_string_map_string_int o2_m) (sA v2_t.f_Name) (AV.mcl none (List.map c_mp_map_string_int x30))=List.map c_mp_map_string_map_string_int (mset o2_m v2_t.f_Name x30):=set_c_mp_map_string_map_string_int _ _ _
 try simp only [hs34]
 conv=>lhs;whnf
 revert h
 refine ca hc (fun _ h=>ok_legal_checker_body_1 h) ?_;intro y35
 intro h;cases sj h
 try simp only [ls]
 exact fq (y:=some (AV.tup [],[Ob.var 52 [iA c_p_Mod,AV.sl 3 (List.map c_api_Var c_p_Locs),AV.sl 4 (List.map c_api_Thread c_p_Threads),AV.sl 3 (List.map c_api_Claim c_p_Claims),AV.mapp 1,AV.mapp 2,iA y35.1,iA y35.2],Ob.mp none false (List.map c_mp_map_string_int o1_m),Ob.mp none false (List.map c_mp_map_string_map_string_int (mset o2_m v2_t.f_Name x30))]))
theorem ok_legal_checker_vars {n:Nat} ⦃c_p_Mod:Int⦄ ⦃c_p_Locs:(List S_api_Var)⦄ ⦃c_p_Threads:(List S_api_Thread)⦄ ⦃c_p_Claims:(List S_api_Claim)⦄ ⦃c_e:Int⦄ ⦃c_at:Int⦄ ⦃o1_m:(List ((List UInt8)×Int))⦄ ⦃o2_m:(List ((List UInt8)×(List ((List UInt8)×Int))))⦄ ⦃r:(Int×Int×(List ((List UInt8)×Int)))⦄:m_legal_checker_vars n c_p_Mod c_p_Locs c_p_Threads c_p_Claims c_e c_at o1_m o2_m=some r→CN n 19 [AV.ptr 0 0] [Ob.var 52 [iA c_p_Mod,AV.sl 3 (List.map c_api_Var c_p_Locs),AV.sl 4 (List.map c_api_Thread c_p_Threads),AV.sl 3 (List.map c_api_Claim c_p_Claims),AV.mapp 1,AV.mapp 2,iA c_e,iA c_at],Ob.mp none false (List.map c_mp_map_string_int o1_m),Ob.mp none false (List.map c_mp_map_string_map_string_int o2_m)]=some (AV.tup [],[Ob.var 52 [iA c_p_Mod,AV.sl 3 (List.map c_api_Var c_p_Locs),AV.sl 4 (List.map c_api_Thread c_p_Threads),AV.sl 3 (List.map c_api_Claim c_p_Claims),AV.mapp 1,AV.mapp 2,iA r.1,iA r.2.1],Ob.mp none false (List.map c_mp_map_string_int r.2.2),Ob.mp none false (List.map c_mp_map_string_map_string_int o2_m)]):=by
 intro h;rcases n with _|n;cases h
 rw [m_legal_checker_vars] at h
 refine callN_eq' Tryz.func19 (by rfl) rfl rfl (Nat.le_of_ble_eq_true rfl) ?_
 intro call hc;conv=>lhs;whnf
 revert h
 intro h;refine bind_some2 h ?_;clear h;intro o12 ho12 h
 refine lq (σ:=(Int×Int×Int×(List ((List UInt8)×Int)))) (τ:=(Int×Int×(List ((List UInt8)×Int)))) (ν:=(Int×Int×(List ((List UInt8)×Int)))) 0 (fun (s1,s2,s3,s4) a6=>stOf 54 [(0,AV.ptr 0 0),(8,AV.sl 3 (List.map c_api_Var c_p_Locs)),(9,iA (((c_p_Locs.length:Nat):Int))),(10,iA s1)]) (fun (s1,s2,s3,s4) a6=>[Ob.var 52 [iA c_p_Mod,AV.sl 3 (List.map c_api_Var c_p_Locs),AV.sl 4 (List.map c_api_Thread c_p_Threads),AV.sl 3 (List.map c_api_Claim c_p_Claims),AV.mapp 1,AV.mapp 2,iA s2,iA s3],Ob.mp none false (List.map c_mp_map_string_int s4),Ob.mp none false (List.map c_mp_map_string_map_string_int o2_m)]) (fun (x23,x24,x25) a22=>stOf 54 []) (fun (x23,x24,x25) a22=>[Ob.var 52 [iA c_p_Mod,AV.sl 3 (List.map c_api_Var c_p_Locs),AV.sl 4 (List.map c_api_Thread c_p_Threads),AV.sl 3 (List.map c_api_Claim c_p_Claims),AV.mapp 1,AV.mapp 2,iA x23,iA x24],Ob.mp none false (List.map c_mp_map_string_int x25),Ob.mp none false (List.map c_mp_map_string_map_string_int o2_m)]) (fun v=>(AV.tup [],[Ob.var 52 [iA c_p_Mod,AV.sl 3 (List.map c_api_Var c_p_Locs),AV.sl 4 (List.map c_api_Thread c_p_Threads),AV.sl 3 (List.map c_api_Claim c_p_Claims),AV.mapp 1,AV.mapp 2,iA v.1,iA v.2.1],Ob.mp none false (List.map c_mp_map_string_int v.2.2),Ob.mp none false (List.map c_mp_map_string_map_string_int o2_m)])) (fun k s=>legal_checker_vars_L0 n c_p_Mod c_p_Locs c_p_Threads c_p_Claims o2_m k s.1 s.2.1 s.2.2.1 s.2.2.2) (fun s=>rfl) o12 n (0,c_e,c_at,o1_m) (fun _=>0) ho12 ?_ ?_
 intro k5 ss a6 K7 cont8 hK9 hcont10 h hr11
 obtain ⟨s1,s2,s3,s4⟩:=ss
 replace h:legal_checker_vars_L0 n c_p_Mod c_p_Locs c_p_Threads c_p_Claims o2_m (k5+1) s1 s2 s3 s4=some o12:=h
 rw [legal_checker_vars_L0] at h
 conv=>lhs;whnf
 revert h
 refine br ?_ ?_
 refine ix ?_;intro x14
 refine ca hc (fun _ h=>ok_legal_checker_must h) ?_;intro y15
 intro h
 simp only [look_c_mp_map_string_int,ls]
 conv=>lhs;whnf
 revert h
 refine ca hc (fun _ h=>ok_legal_checker_must h) ?_;intro y17
 refine ca hc (fun _ h=>ok_legal_checker_must h) ?_;intro y19
 intro h
 simp only [look_c_mp_map_string_int,ls]
 conv=>lhs;whnf
 revert h
 intro h
 have hs21:mpSet (List.map c_mp_map_string_int s4) (sA x14.f_Name) (iA (IntKind.i64.wrap ((mget s4 x14.f_Name 0)+1)))=List.map c_mp_map_string_int (mset s4 x14.f_Name (IntKind.i64.wrap ((mget s4 x14.f_Name 0)+1))):=set_c_mp_map_string_int _ _ _
 try simp only [hs21]
 conv=>lhs;whnf
 revert h
 exact fun h=>cq (hcont10 (IntKind.i64.wrap (s1+1),y19.2.1,y19.2.2,(mset s4 x14.f_Name (IntKind.i64.wrap ((mget s4 x14.f_Name 0)+1)))) (fun _=>0) h)
 intro h;cases sj h
 exact kq (hr11 (fun _=>0))
 refine lrc ?_ ?_
 intro v e;subst e;cases sj h;rfl
 intro t a22 e;subst e
 obtain ⟨x23,x24,x25⟩:=t
 dsimp only at h
 conv=>lhs;whnf
 revert h
 intro h;cases sj h
 try simp only [ls]
 exact fq (y:=some (AV.tup [],[Ob.var 52 [iA c_p_Mod,AV.sl 3 (List.map c_api_Var c_p_Locs),AV.sl 4 (List.map c_api_Thread c_p_Threads),AV.sl 3 (List.map c_api_Claim c_p_Claims),AV.mapp 1,AV.mapp 2,iA x23,iA x24],Ob.mp none false (List.map c_mp_map_string_int x25),Ob.mp none false (List.map c_mp_map_string_map_string_int o2_m)]))
end Go.Proofs.YtpnhafdimkmbbaaGreat
end
section
namespace Go.Proofs.YtpnhafdimkmbbaaGreat
set_option linter.unusedVariables false
set_option linter.unusedSimpArgs false
set_option maxRecDepth 100000
set_option maxHeartbeats 4000000
theorem ok_expr_kids {n:Nat} ⦃v0_op:Int⦄ ⦃r:Int⦄:m_expr_kids n v0_op=some r→CN n 108 [iA v0_op] []=some (iA r,[]):=by
 intro h;rcases n with _|n;cases h
 rw [m_expr_kids] at h
 refine callN_eq' Tryz.func108 (by rfl) rfl rfl (Nat.le_of_ble_eq_true rfl) ?_
 intro call hc;conv=>lhs;whnf
 revert h
 refine br ?_ ?_
 refine br ?_ ?_
 exact rz
 refine br ?_ ?_
 exact rz
 refine br ?_ ?_
 refine br ?_ ?_
 exact rz
 exact rz
 exact rz
 refine br ?_ ?_
 exact rz
 refine br ?_ ?_
 refine br ?_ ?_
 exact rz
 exact rz
 exact rz
theorem ok_expr_End {n:Nat} ⦃v0_l:(List S_api_Node)⦄ ⦃v1_i:Int⦄ ⦃r:Int⦄:m_expr_End n v0_l v1_i=some r→CN n 94 [AV.sl 5 (List.map c_api_Node v0_l),iA v1_i] []=some (iA r,[]):=by
 intro h;rcases n with _|n;cases h
 rw [m_expr_End] at h
 refine callN_eq' Tryz.func94 (by rfl) rfl rfl (Nat.le_of_ble_eq_true rfl) ?_
 intro call hc;conv=>lhs;whnf
 revert h
 refine br ?_ ?_
 exact rz
 intro h;refine bind_some2 h ?_;clear h;intro o11 ho11 h
 refine lq (σ:=(Int×Int)) (τ:=Unit) (ν:=Int) 0 (fun (s2,s3) a5=>stOf 31 [(0,AV.sl 5 (List.map c_api_Node v0_l)),(1,iA s2),(5,iA s3)]) (fun (s2,s3) a5=>[]) (fun _ a18=>stOf 31 []) (fun _ a18=>[]) (fun v=>(iA v,[])) (fun k s=>expr_End_L0 n v0_l k s.1 s.2) (fun s=>rfl) o11 n (v1_i,1) (fun _=>0) ho11 ?_ ?_
 intro k4 ss a5 K6 cont7 hK8 hcont9 h hr10
 obtain ⟨s2,s3⟩:=ss
 replace h:expr_End_L0 n v0_l (k4+1) s2 s3=some o11:=h
 rw [expr_End_L0] at h
 conv=>lhs;whnf
 revert h
 refine br ?_ ?_
 refine ix ?_;intro x13
 refine ca hc (fun _ h=>ok_expr_kids h) ?_;intro y14
 refine br ?_ ?_
 intro h;cases sj h
 refine (hK8 _ _).trans ?_
 refine Eq.trans ?_ (Eq.symm (show _=some _ from hr10))
 conv=>lhs;whnf
 exact rq
 refine br ?_ ?_
 intro h;cases sj h
 refine (hK8 _ _).trans ?_
 refine Eq.trans ?_ (Eq.symm (show _=some _ from hr10))
 conv=>lhs;whnf
 exact rq
 exact fun h=>cq (hcont9 (IntKind.i64.wrap (s2+1),IntKind.i64.wrap (s3+(IntKind.i64.wrap (y14 - 1)))) (fun _=>0) h)
 intro h;cases sj h
 exact kq (hr10 (fun _=>0))
 refine lrc ?_ ?_
 intro v e;subst e;cases sj h;rfl
 intro t a18 e;subst e
 dsimp only at h
 conv=>lhs;whnf
 revert h
 exact rz
theorem ok_expr_Names {n:Nat} ⦃v0_l:(List S_api_Node)⦄ ⦃r:(List S_api_Node)⦄:m_expr_Names n v0_l=some r→CN n 68 [AV.sl 5 (List.map c_api_Node v0_l)] []=some (AV.sl 5 (List.map c_api_Node r),[]):=by
 intro h;rcases n with _|n;cases h
 rw [m_expr_Names] at h
 refine callN_eq' Tryz.func68 (by rfl) rfl rfl (Nat.le_of_ble_eq_true rfl) ?_
 intro call hc;conv=>lhs;whnf
 revert h
 intro h;refine bind_some2 h ?_;clear h;intro o10 ho10 h
 refine lq (σ:=(Int×(List S_api_Node))) (τ:=(List S_api_Node)) (ν:=(List S_api_Node)) 0 (fun (s1,s2) a4=>stOf 24 [(3,AV.row 0 (List.length s2)),(6,AV.sl 5 (List.map c_api_Node v0_l)),(7,iA (((v0_l.length:Nat):Int))),(8,iA s1)]) (fun (s1,s2) a4=>[Ob.row 63 5 (List.map c_api_Node s2)]) (fun x23 a22=>stOf 24 [(3,AV.row 0 (List.length x23))]) (fun x23 a22=>[Ob.row 63 5 (List.map c_api_Node x23)]) (fun v=>(AV.sl 5 (List.map c_api_Node v),[])) (fun k s=>expr_Names_L0 n v0_l k s.1 s.2) (fun s=>rfl) o10 n (0,([]:List S_api_Node)) (fun _=>0) ho10 ?_ ?_
 intro k3 ss a4 K5 cont6 hK7 hcont8 h hr9
 obtain ⟨s1,s2⟩:=ss
 replace h:expr_Names_L0 n v0_l (k3+1) s1 s2=some o10:=h
 rw [expr_Names_L0] at h
 conv=>lhs;whnf
 revert h
 refine br ?_ ?_
 refine ix ?_;intro x12
 refine br ?_ ?_
 refine ar (ap c_api_Node (List.map c_api_Node s2) s2 ([[iA x12.f_Op,iA x12.f_N,sA x12.f_Name,sA x12.f_In,iA x12.f_At]]) ([x12]:List S_api_Node)) ?_
 exact fun h=>cq (hcont8 (IntKind.i64.wrap (s1+1),(s2++([x12]:List S_api_Node))) (fun _=>0) h)
 refine br ?_ ?_
 refine ar (ap c_api_Node (List.map c_api_Node s2) s2 ([[iA x12.f_Op,iA x12.f_N,sA x12.f_Name,sA x12.f_In,iA x12.f_At]]) ([x12]:List S_api_Node)) ?_
 exact fun h=>cq (hcont8 (IntKind.i64.wrap (s1+1),(s2++([x12]:List S_api_Node))) (fun _=>0) h)
 refine br ?_ ?_
 refine ar (ap c_api_Node (List.map c_api_Node s2) s2 ([[iA x12.f_Op,iA x12.f_N,sA x12.f_Name,sA x12.f_In,iA x12.f_At]]) ([x12]:List S_api_Node)) ?_
 exact fun h=>cq (hcont8 (IntKind.i64.wrap (s1+1),(s2++([x12]:List S_api_Node))) (fun _=>0) h)
 exact fun h=>cq (hcont8 (IntKind.i64.wrap (s1+1),s2) (fun _=>0) h)
 intro h;cases sj h
 exact kq (hr9 (fun _=>0))
 refine lrc ?_ ?_
 intro v e;subst e;cases sj h;rfl
 intro x23 a22 e;subst e
 dsimp only at h
 conv=>lhs;whnf
 revert h
 intro h;obtain rfl:=sj h
 try simp only [ls]
 exact fq (y:=some (AV.sl 5 (List.take (List.length x23) (List.map c_api_Node x23)),[]))
theorem ok_expr_depth {n:Nat} ⦃v0_l:(List S_api_Node)⦄ ⦃r:Int⦄:m_expr_depth n v0_l=some r→CN n 96 [AV.sl 5 (List.map c_api_Node v0_l)] []=some (iA r,[]):=by
 intro h;rcases n with _|n;cases h
 rw [m_expr_depth] at h
 refine callN_eq' Tryz.func96 (by rfl) rfl rfl (Nat.le_of_ble_eq_true rfl) ?_
 intro call hc;conv=>lhs;whnf
 revert h
 intro h;refine bind_some2 h ?_;clear h;intro o11 ho11 h
 refine lq (σ:=(Int×Int×(List Int))) (τ:=(Int×(List Int))) (ν:=Int) 0 (fun (s1,s2,s3) a5=>stOf 50 [(3,AV.stk 0 (a5 0) (List.length s3)),(4,iA s1),(9,AV.sl 5 (List.map c_api_Node v0_l)),(10,iA (((v0_l.length:Nat):Int))),(11,iA s2)]) (fun (s1,s2,s3) a5=>[Ob.stk (a5 0) 3 1 (List.map encI s3)]) (fun (x41,x42) a40=>stOf 50 [(4,iA x41)]) (fun (x41,x42) a40=>[Ob.stk (a40 0) 3 1 (List.map encI x42)]) (fun v=>(iA v,[])) (fun k s=>expr_depth_L0 n v0_l k s.1 s.2.1 s.2.2) (fun s=>rfl) o11 n (0,0,([]:List Int)) (fun j=>(bif Nat.beq j 0 then 0 else 0)) ho11 ?_ ?_
 intro k4 ss a5 K6 cont7 hK8 hcont9 h hr10
 obtain ⟨s1,s2,s3⟩:=ss
 replace h:expr_depth_L0 n v0_l (k4+1) s1 s2 s3=some o11:=h
 rw [expr_depth_L0] at h
 conv=>lhs;whnf
 revert h
 refine br ?_ ?_
 refine ix ?_;intro x13
 refine ca hc (fun _ h=>ok_expr_kids h) ?_;intro y14
 refine br ?_ ?_
 intro h
 refine chk_some2 h ?_;clear h;intro hc19 h
 try simp only [dec_self]
 conv=>lhs;whnf
 first|refine bif_pos (app_row hc19 (by first|rfl|simp only [List.length_map]) (by first|rfl|simp only [List.length_map]) (by first|rfl|simp only [List.length_map,take_map_len]) (by kernel_rfl)) ?_|refine bif_pos (app_row2 hc19 (by first|rfl|simp only [List.length_map]) (by first|rfl|simp only [List.length_map,take_map_len]) (by kernel_rfl)) ?_
 try simp only [lt]
 have hp17:(List.map encI s3:List (List AV))++[[iA y14]]=List.map encI (s3++([y14]:List Int)):=by first|rfl|(rw [List.map_append];rfl)|(rw [List.map_append];done)|(simp only [List.map_append,List.map_cons,List.map_nil,List.nil_append,encI]<;>rfl)
 have hl18:List.length (List.map encI s3:List (List AV))+List.length ([[iA y14]]:List (List AV))=List.length (s3++([y14]:List Int)):=by simp only [List.length_map,List.length_append]<;>rfl
 have hl18_b:List.length s3+List.length ([[iA y14]]:List (List AV))=List.length (s3++([y14]:List Int)):=by simp only [List.length_map,List.length_append]<;>rfl
 have hl18_c:List.length s3+List.length ([y14]:List Int)=List.length (s3++([y14]:List Int)):=by simp only [List.length_map,List.length_append]<;>rfl
 first|simp only [hp17,hl18]|(simp only [List.length_map,take_map_len];simp only [hp17,hl18_b,hl18_c])
 try simp only [ls]
 conv=>lhs;whnf
 revert h
 exact fun h=>cq (hcont9 ((if s1<((s3.length:Nat):Int) then ((s3.length:Nat):Int) else s1),IntKind.i64.wrap (s2+1),(s3++([y14]:List Int))) (fun j=>(bif Nat.beq j 0 then ((a5 0)+1) else 0)) h)
 intro h;refine bind_some2 h ?_;clear h;intro o28 ho28 h
 refine lq (σ:=(List Int)) (τ:=(List Int)) (ν:=Int) 2 (fun s20 a22=>stOf 50 [(3,AV.stk 0 (a22 0) (List.length s20)),(4,iA ((if s1<((s3.length:Nat):Int) then ((s3.length:Nat):Int) else s1))),(9,AV.sl 5 (List.map c_api_Node v0_l)),(10,iA (((v0_l.length:Nat):Int))),(11,iA s2)]) (fun s20 a22=>[Ob.stk (a22 0) 3 1 (List.map encI s20),Ob.var 63 [iA x13.f_Op,iA x13.f_N,sA x13.f_Name,sA x13.f_In,iA x13.f_At]]) (fun x38 a37=>stOf 50 [(3,AV.stk 0 (a37 0) (List.length x38)),(4,iA ((if s1<((s3.length:Nat):Int) then ((s3.length:Nat):Int) else s1))),(9,AV.sl 5 (List.map c_api_Node v0_l)),(10,iA (((v0_l.length:Nat):Int))),(11,iA s2)]) (fun x38 a37=>[Ob.stk (a37 0) 3 1 (List.map encI x38),Ob.var 63 [iA x13.f_Op,iA x13.f_N,sA x13.f_Name,sA x13.f_In,iA x13.f_At]]) (fun v=>(iA v,[])) (fun k s=>expr_depth_L1 n k s) (fun s=>rfl) o28 n s3 (fun j=>(bif Nat.beq j 0 then (a5 0) else 0)) ho28 ?_ ?_
 intro k21 s20 a22 K23 cont24 hK25 hcont26 h hr27
 replace h:expr_depth_L1 n (k21+1) s20=some o28:=h
 rw [expr_depth_L1] at h
 conv=>lhs;whnf
 revert h
 refine br ?_ ?_
 intro h
 refine bind_some2 h ?_;clear h;intro x30 hx30 h
 try simp only [dec_self]
 conv=>lhs;whnf
 try simp only [ls]
 refine bif_pos (by first|exact idx_in hx30|exact idx_in' hx30|exact own_in hx30|exact own_in' hx30|(have q:=idx_in hx30;simp only [List.length_set] at q;exact q)|(have q:=own_in' hx30;simp only [List.length_set,Nat.zero_add] at q ⊢;exact q)) ?_
 conv=>lhs;whnf
 try simp only [idx_nth (f:=encI) hx30,dec_self,ls]
 conv=>lhs;whnf
 revert h
 intro h
 refine bind_some2 h ?_;clear h;intro x31 hx31 h
 try simp only [dec_self]
 conv=>lhs;whnf
 try simp only [ls]
 refine bif_pos (by first|exact idx_in hx31|exact idx_in' hx31|exact own_in hx31|exact own_in' hx31|(have q:=idx_in hx31;simp only [List.length_set] at q;exact q)|(have q:=own_in' hx31;simp only [List.length_set,Nat.zero_add] at q ⊢;exact q)) ?_
 conv=>lhs;whnf
 try simp only [idx_nth (f:=encI) hx31,dec_self,ls]
 conv=>lhs;whnf
 revert h
 intro h
 have hs32:setNth (List.map encI s20) (IntKind.i64.wrap (((s20.length:Nat):Int) - 1)).toNat [iA (IntKind.i64.wrap (x30 - 1))]=List.map encI (List.set s20 (IntKind.i64.wrap (((s20.length:Nat):Int) - 1)).toNat (IntKind.i64.wrap (x30 - 1))):=by rw [setNth_eq,List.map_set];rfl
 have hs32_u:setNth (List.map encI s20) (IntKind.i64.wrap (((s20.length:Nat):Int) - 1)).toNat (updL (encI x31) 0 [iA (IntKind.i64.wrap (x30 - 1))])=List.map encI (List.set s20 (IntKind.i64.wrap (((s20.length:Nat):Int) - 1)).toNat (IntKind.i64.wrap (x30 - 1))):=by rw [setNth_eq,List.map_set];rfl
 try simp only [idx_nth (f:=encI) hx31,dec_self]
 conv=>lhs;whnf
 try simp only [hs32,hs32_u,dec_self]
 conv=>lhs;whnf
 revert h
 intro h
 refine bind_some2 h ?_;clear h;intro x33 hx33 h
 try simp only [dec_self]
 conv=>lhs;whnf
 try simp only [ls]
 refine bif_pos (by first|exact idx_in hx33|exact idx_in' hx33|exact own_in hx33|exact own_in' hx33|(have q:=idx_in hx33;simp only [List.length_set] at q;exact q)|(have q:=own_in' hx33;simp only [List.length_set,Nat.zero_add] at q ⊢;exact q)) ?_
 conv=>lhs;whnf
 try simp only [idx_nth (f:=encI) hx33,dec_self,ls]
 conv=>lhs;whnf
 revert h
 refine br ?_ ?_
 intro h;cases sj h
 exact kq (hr27 (fun j=>(bif Nat.beq j 0 then (a22 0) else 0)))
 intro h
 refine chk_some2 h ?_;clear h;intro hc36 h
 try simp only [dec_self]
 conv=>lhs;whnf
 try simp only [ls]
 first|refine bif_pos hc36 ?_|(refine bif_pos (by have q:=hc36;simp only [List.length_set] at q;exact q) ?_)
 have hs35:List.take ((IntKind.i64.wrap (((s20.length:Nat):Int) - 1)).toNat) (List.map encI (List.set s20 (IntKind.i64.wrap (((s20.length:Nat):Int) - 1)).toNat (IntKind.i64.wrap (x30 - 1))))=List.map encI (List.take ((IntKind.i64.wrap (((s20.length:Nat):Int) - 1)).toNat) (List.set s20 (IntKind.i64.wrap (((s20.length:Nat):Int) - 1)).toNat (IntKind.i64.wrap (x30 - 1)))):=by rw [List.map_take]
 have hs35_l:List.length (List.take ((IntKind.i64.wrap (((s20.length:Nat):Int) - 1)).toNat) (List.set s20 (IntKind.i64.wrap (((s20.length:Nat):Int) - 1)).toNat (IntKind.i64.wrap (x30 - 1))))=(IntKind.i64.wrap (((s20.length:Nat):Int) - 1)).toNat:=by simp only [List.length_take];exact Nat.min_eq_left (cut_le hc36)
 conv=>lhs;whnf
 try simp only [dec_self,hs35]
 conv=>lhs;whnf
 try simp only [hs35]
 have hs35_s:∀ q,AV.stk 0 q ((IntKind.i64.wrap (((s20.length:Nat):Int) - 1)).toNat)=AV.stk 0 q (List.length (List.take ((IntKind.i64.wrap (((s20.length:Nat):Int) - 1)).toNat) (List.set s20 (IntKind.i64.wrap (((s20.length:Nat):Int) - 1)).toNat (IntKind.i64.wrap (x30 - 1))))):=fun q=>by rw [hs35_l]
 try simp only [hs35_s]
 conv=>lhs;whnf
 revert h
 exact fun h=>cq (hcont26 (List.take ((IntKind.i64.wrap (((s20.length:Nat):Int) - 1)).toNat) (List.set s20 (IntKind.i64.wrap (((s20.length:Nat):Int) - 1)).toNat (IntKind.i64.wrap (x30 - 1)))) (fun j=>(bif Nat.beq j 0 then ((a22 0)+1) else 0)) h)
 intro h;cases sj h
 exact kq (hr27 (fun j=>(bif Nat.beq j 0 then (a22 0) else 0)))
 refine lrc ?_ ?_
 intro v e;subst e;cases sj h;exact hr10
 intro x38 a37 e;subst e
 dsimp only at h
 conv=>lhs;whnf
 revert h
 exact fun h=>cq (hcont9 ((if s1<((s3.length:Nat):Int) then ((s3.length:Nat):Int) else s1),IntKind.i64.wrap (s2+1),x38) (fun j=>(bif Nat.beq j 0 then (a37 0) else 0)) h)
 intro h;cases sj h
 exact kq (hr10 (fun j=>(bif Nat.beq j 0 then (a5 0) else 0)))
 refine lrc ?_ ?_
 intro v e;subst e;cases sj h;rfl
 intro t a40 e;subst e
 obtain ⟨x41,x42⟩:=t
 dsimp only at h
 conv=>lhs;whnf
 revert h
 exact rz
theorem ok_expr_fits {n:Nat} ⦃v0_x:S_api_Node⦄ ⦃r:Bool⦄:m_expr_fits n v0_x=some r→CN n 95 [AV.agg [iA v0_x.f_Op,iA v0_x.f_N,sA v0_x.f_Name,sA v0_x.f_In,iA v0_x.f_At]] []=some (bA r,[]):=by
 intro h;rcases n with _|n;cases h
 rw [m_expr_fits] at h
 refine callN_eq' Tryz.func95 (by rfl) rfl rfl (Nat.le_of_ble_eq_true rfl) ?_
 intro call hc;conv=>lhs;whnf
 revert h
 refine br ?_ ?_
 exact rz
 refine br ?_ ?_
 intro h
 have hf5:flatT Tryz.prog 63=some (fieldsOf Tryz.prog 63):=by kernel_rfl
 simp only [hf5,List.length_map,take_map_len]
 conv=>lhs;whnf
 revert h
 refine br ?_ ?_
 refine br ?_ ?_
 exact rz
 exact rz
 exact rz
 refine br ?_ ?_
 refine ca hc (fun _ h=>ok_scan_Name h) ?_;intro y7
 refine br ?_ ?_
 intro h
 have hf13:flatT Tryz.prog 63=some (fieldsOf Tryz.prog 63):=by kernel_rfl
 simp only [hf13,List.length_map,take_map_len]
 conv=>lhs;whnf
 revert h
 refine br ?_ ?_
 refine ca hc (fun _ h=>ok_scan_Name h) ?_;intro y11
 exact rz
 exact rz
 exact rz
 refine br ?_ ?_
 intro h
 have hf18:flatT Tryz.prog 63=some (fieldsOf Tryz.prog 63):=by kernel_rfl
 simp only [hf18,List.length_map,take_map_len]
 conv=>lhs;whnf
 revert h
 refine br ?_ ?_
 refine ca hc (fun _ h=>ok_scan_Name h) ?_;intro y16
 exact rz
 exact rz
 refine br ?_ ?_
 intro h
 have hf23:flatT Tryz.prog 63=some (fieldsOf Tryz.prog 63):=by kernel_rfl
 simp only [hf23,List.length_map,take_map_len]
 conv=>lhs;whnf
 revert h
 refine br ?_ ?_
 refine ca hc (fun _ h=>ok_scan_Name h) ?_;intro y21
 exact rz
 exact rz
 intro h
 have hf24:flatT Tryz.prog 63=some (fieldsOf Tryz.prog 63):=by kernel_rfl
 simp only [hf24,List.length_map,take_map_len]
 conv=>lhs;whnf
 revert h
 exact rz
theorem ok_expr_Right {n:Nat} ⦃v0_l:(List S_api_Node)⦄ ⦃r:Bool⦄:m_expr_Right n v0_l=some r→CN n 70 [AV.sl 5 (List.map c_api_Node v0_l)] []=some (bA r,[]):=by
 intro h;rcases n with _|n;cases h
 rw [m_expr_Right] at h
 refine callN_eq' Tryz.func70 (by rfl) rfl rfl (Nat.le_of_ble_eq_true rfl) ?_
 intro call hc;conv=>lhs;whnf
 revert h
 refine br ?_ ?_
 exact rz
 refine br ?_ ?_
 exact rz
 refine ca hc (fun _ h=>ok_expr_End h) ?_;intro y3
 refine br ?_ ?_
 exact rz
 intro h;refine bind_some2 h ?_;clear h;intro o14 ho14 h
 refine lq (σ:=Int) (τ:=Unit) (ν:=Bool) 0 (fun s6 a8=>stOf 33 [(0,AV.sl 5 (List.map c_api_Node v0_l)),(20,AV.sl 5 (List.map c_api_Node v0_l)),(21,iA (((v0_l.length:Nat):Int))),(22,iA s6)]) (fun s6 a8=>[]) (fun _ a20=>stOf 33 [(0,AV.sl 5 (List.map c_api_Node v0_l))]) (fun _ a20=>[]) (fun v=>(bA v,[])) (fun k s=>expr_Right_L0 n v0_l k s) (fun s=>rfl) o14 n 0 (fun _=>0) ho14 ?_ ?_
 intro k7 s6 a8 K9 cont10 hK11 hcont12 h hr13
 replace h:expr_Right_L0 n v0_l (k7+1) s6=some o14:=h
 rw [expr_Right_L0] at h
 conv=>lhs;whnf
 revert h
 refine br ?_ ?_
 refine ix ?_;intro x16
 refine ca hc (fun _ h=>ok_expr_fits h) ?_;intro y17
 refine br ?_ ?_
 exact fun h=>cq (hcont12 (IntKind.i64.wrap (s6+1)) (fun _=>0) h)
 intro h;cases sj h
 refine (hK11 _ _).trans ?_
 refine Eq.trans ?_ (Eq.symm (show _=some _ from hr13))
 conv=>lhs;whnf
 exact rq
 intro h;cases sj h
 exact kq (hr13 (fun _=>0))
 refine lrc ?_ ?_
 intro v e;subst e;cases sj h;rfl
 intro t a20 e;subst e
 dsimp only at h
 conv=>lhs;whnf
 revert h
 refine ca hc (fun _ h=>ok_expr_depth h) ?_;intro y21
 exact rz
end Go.Proofs.YtpnhafdimkmbbaaGreat
end
section
namespace Go.Proofs.YtpnhafdimkmbbaaGreat
set_option linter.unusedVariables false
set_option linter.unusedSimpArgs false
set_option maxRecDepth 100000
set_option maxHeartbeats 4000000
theorem ok_stmt_nests {n:Nat} ⦃v0_kind:Int⦄ ⦃r:Bool⦄:m_stmt_nests n v0_kind=some r→CN n 117 [iA v0_kind] []=some (bA r,[]):=by
 intro h;rcases n with _|n;cases h
 rw [m_stmt_nests] at h
 refine callN_eq' Tryz.func117 (by rfl) rfl rfl (Nat.le_of_ble_eq_true rfl) ?_
 intro call hc;conv=>lhs;whnf
 revert h
 refine br ?_ ?_
 exact rz
 refine br ?_ ?_
 exact rz
 refine br ?_ ?_
 exact rz
 exact rz
def OK_stmt_depth (n:Nat):Prop:=∀ ⦃v0_l:(List S_api_Stmt)⦄ ⦃v1_from:Int⦄ ⦃v2_to:Int⦄ ⦃r:Int⦄,m_stmt_depth n v0_l v1_from v2_to=some r→CN n 102 [AV.sl 9 (List.map c_api_Stmt v0_l),iA v1_from,iA v2_to] []=some (iA r,[])
def OK_stmt_depth_1 (n:Nat):Prop:=∀ ⦃v0_i:Int⦄ ⦃v1_mid:Int⦄ ⦃v2_end:Int⦄ ⦃o0:(List S_api_Stmt)⦄ ⦃o1:Int⦄ ⦃r:(Bool×Int)⦄,m_stmt_depth_1 n v0_i v1_mid v2_end o0 o1=some r→CN n 116 [iA v0_i,iA v1_mid,iA v2_end,AV.ptr 0 0,AV.ptr 1 0] [Ob.var 38 [AV.sl 9 (List.map c_api_Stmt o0)],Ob.var 3 [iA o1]]=some (bA r.1,[Ob.var 38 [AV.sl 9 (List.map c_api_Stmt o0)],Ob.var 3 [iA r.2]])
def OK_stmt_walk_stmt_depth_1 (n:Nat):Prop:=∀ ⦃v0_l:(List S_api_Stmt)⦄ ⦃v1_from:Int⦄ ⦃v2_to:Int⦄ ⦃o0:(List S_api_Stmt)⦄ ⦃o1:Int⦄ ⦃r:(Bool×Int)⦄,m_stmt_walk_stmt_depth_1 n v0_l v1_from v2_to o0 o1=some r→CN n 115 [AV.sl 9 (List.map c_api_Stmt v0_l),iA v1_from,iA v2_to,AV.func 116 [] [AV.ptr 0 0,AV.ptr 1 0]] [Ob.var 38 [AV.sl 9 (List.map c_api_Stmt o0)],Ob.var 3 [iA o1]]=some (bA r.1,[Ob.var 38 [AV.sl 9 (List.map c_api_Stmt o0)],Ob.var 3 [iA r.2]])
def IH_stmt_depth (n : Nat) : Prop := OK_stmt_depth n ∧ OK_stmt_depth_1 n ∧ OK_stmt_walk_stmt_depth_1 n
theorem st_stmt_depth (n:Nat) (ih:IH_stmt_depth n):OK_stmt_depth (n+1):=by
 intro v0_l v1_from v2_to r h
 rw [m_stmt_depth] at h
 refine callN_eq' Tryz.func102 (by rfl) rfl rfl (Nat.le_of_ble_eq_true rfl) ?_
 intro call hc;conv=>lhs;whnf
 revert h
 refine ca hc (fun _ h=>ih.2.2 h) ?_;intro y1
 refine br ?_ ?_
 exact rz
 exact rz
theorem st_stmt_depth_1 (n:Nat) (ih:IH_stmt_depth n):OK_stmt_depth_1 (n+1):=by
 intro v0_i v1_mid v2_end o0 o1 r h
 rw [m_stmt_depth_1] at h
 refine callN_eq' Tryz.func116 (by rfl) rfl rfl (Nat.le_of_ble_eq_true rfl) ?_
 intro call hc;conv=>lhs;whnf
 revert h
 refine ca hc (fun _ h=>ih.1 h) ?_;intro y1
 refine ca hc (fun _ h=>ih.1 h) ?_;intro y3
 refine ix ?_;intro x5
 refine ca hc (fun _ h=>ok_stmt_nests h) ?_;intro y6
 refine br ?_ ?_
 refine br ?_ ?_
 exact rz
 exact rz
 refine br ?_ ?_
 exact rz
 exact rz
theorem st_stmt_walk_stmt_depth_1 (n:Nat) (ih:IH_stmt_depth n):OK_stmt_walk_stmt_depth_1 (n+1):=by
 intro v0_l v1_from v2_to o0 o1 r h
 rw [m_stmt_walk_stmt_depth_1] at h
 refine callN_eq' Tryz.func115 (by rfl) rfl rfl (Nat.le_of_ble_eq_true rfl) ?_
 intro call hc;conv=>lhs;whnf
 revert h
 intro h;refine bind_some2 h ?_;clear h;intro o10 ho10 h
 refine lq (σ:=(Int×Int)) (τ:=Int) (ν:=(Bool×Int)) 0 (fun (s1,s2) a4=>stOf 63 [(0,AV.sl 9 (List.map c_api_Stmt v0_l)),(1,iA s1),(2,iA v2_to),(3,AV.func 116 [] [AV.ptr 0 0,AV.ptr 1 0])]) (fun (s1,s2) a4=>[Ob.var 38 [AV.sl 9 (List.map c_api_Stmt o0)],Ob.var 3 [iA s2]]) (fun x21 a20=>stOf 63 []) (fun x21 a20=>[Ob.var 38 [AV.sl 9 (List.map c_api_Stmt o0)],Ob.var 3 [iA x21]]) (fun v=>(bA v.1,[Ob.var 38 [AV.sl 9 (List.map c_api_Stmt o0)],Ob.var 3 [iA v.2]])) (fun k s=>stmt_walk_stmt_depth_1_L0 n (m_stmt_depth_1 n) v0_l v2_to o0 k s.1 s.2) (fun s=>rfl) o10 n (v1_from,o1) (fun _=>0) ho10 ?_ ?_
 intro k3 ss a4 K5 cont6 hK7 hcont8 h hr9
 obtain ⟨s1,s2⟩:=ss
 replace h:stmt_walk_stmt_depth_1_L0 n (m_stmt_depth_1 n) v0_l v2_to o0 (k3+1) s1 s2=some o10:=h
 rw [stmt_walk_stmt_depth_1_L0] at h
 conv=>lhs;whnf
 revert h
 refine br ?_ ?_
 refine ix ?_;intro x12
 refine br ?_ ?_
 intro h;cases sj h
 refine (hK7 _ _).trans ?_
 refine Eq.trans ?_ (Eq.symm (show _=some _ from hr9))
 conv=>lhs;whnf
 exact rq
 refine br ?_ ?_
 intro h;cases sj h
 refine (hK7 _ _).trans ?_
 refine Eq.trans ?_ (Eq.symm (show _=some _ from hr9))
 conv=>lhs;whnf
 exact rq
 refine br ?_ ?_
 intro h;cases sj h
 refine (hK7 _ _).trans ?_
 refine Eq.trans ?_ (Eq.symm (show _=some _ from hr9))
 conv=>lhs;whnf
 exact rq
 refine br ?_ ?_
 intro h;cases sj h
 refine (hK7 _ _).trans ?_
 refine Eq.trans ?_ (Eq.symm (show _=some _ from hr9))
 conv=>lhs;whnf
 exact rq
 refine ca hc (fun _ h=>ih.2.1 h) ?_;intro y17
 refine br ?_ ?_
 exact fun h=>cq (hcont8 (IntKind.i64.wrap ((IntKind.i64.wrap ((IntKind.i64.wrap (s1+1))+x12.f_Body))+x12.f_Else),y17.2) (fun _=>0) h)
 intro h;cases sj h
 refine (hK7 _ _).trans ?_
 refine Eq.trans ?_ (Eq.symm (show _=some _ from hr9))
 conv=>lhs;whnf
 exact rq
 intro h;cases sj h
 exact kq (hr9 (fun _=>0))
 refine lrc ?_ ?_
 intro v e;subst e;cases sj h;rfl
 intro x21 a20 e;subst e
 dsimp only at h
 conv=>lhs;whnf
 revert h
 exact rz
theorem all_stmt_depth : ∀ n, IH_stmt_depth n
  | 0 => ⟨by unfold OK_stmt_depth; intros; rename_i h; exact absurd h (by intro h; cases h), by unfold OK_stmt_depth_1; intros; rename_i h; exact absurd h (by intro h; cases h), by unfold OK_stmt_walk_stmt_depth_1; intros; rename_i h; exact absurd h (by intro h; cases h)⟩
  | n + 1 => have ih := all_stmt_depth n
    ⟨st_stmt_depth n ih, st_stmt_depth_1 n ih, st_stmt_walk_stmt_depth_1 n ih⟩
theorem ok_stmt_depth {n : Nat} : OK_stmt_depth n := (all_stmt_depth n).1
theorem ok_stmt_Depth {n:Nat} ⦃v0_l:(List S_api_Stmt)⦄ ⦃r:Int⦄:m_stmt_Depth n v0_l=some r→CN n 92 [AV.sl 9 (List.map c_api_Stmt v0_l)] []=some (iA r,[]):=by
 intro h;rcases n with _|n;cases h
 rw [m_stmt_Depth] at h
 refine callN_eq' Tryz.func92 (by rfl) rfl rfl (Nat.le_of_ble_eq_true rfl) ?_
 intro call hc;conv=>lhs;whnf
 revert h
 refine cr hc (fun _ h=>ok_stmt_depth h) ?_;intro y1
 exact rz
theorem ok_stmt_kind_has {n:Nat} ⦃v0_k:S_stmt_kind⦄ ⦃v1_part:Int⦄ ⦃r:Bool⦄:m_stmt_kind_has n v0_k v1_part=some r→CN n 105 [AV.agg [sA v0_k.f_word,sA v0_k.f_form,bA v0_k.f_body,bA v0_k.f_more],AV.int .u8 v1_part] []=some (bA r,[]):=by
 intro h;rcases n with _|n;cases h
 rw [m_stmt_kind_has] at h
 refine callN_eq' Tryz.func105 (by rfl) rfl rfl (Nat.le_of_ble_eq_true rfl) ?_
 intro call hc;conv=>lhs;whnf
 revert h
 intro h;refine bind_some2 h ?_;clear h;intro o9 ho9 h
 refine lq (σ:=Int) (τ:=Unit) (ν:=Bool) 0 (fun s1 a3=>stOf 19 [(1,AV.int .u8 v1_part),(2,AV.ptr 0 0),(8,iA (((v0_k.f_form.length:Nat):Int))),(9,iA s1)]) (fun s1 a3=>[Ob.var 120 [sA v0_k.f_word,sA v0_k.f_form,bA v0_k.f_body,bA v0_k.f_more]]) (fun _ a13=>stOf 19 []) (fun _ a13=>[Ob.var 120 [sA v0_k.f_word,sA v0_k.f_form,bA v0_k.f_body,bA v0_k.f_more]]) (fun v=>(bA v,[])) (fun k s=>stmt_kind_has_L0 n v0_k v1_part k s) (fun s=>rfl) o9 n 0 (fun _=>0) ho9 ?_ ?_
 intro k2 s1 a3 K4 cont5 hK6 hcont7 h hr8
 replace h:stmt_kind_has_L0 n v0_k v1_part (k2+1) s1=some o9:=h
 rw [stmt_kind_has_L0] at h
 conv=>lhs;whnf
 revert h
 refine br ?_ ?_
 refine ixs ?_;intro x11
 refine br ?_ ?_
 intro h;cases sj h
 refine (hK6 _ _).trans ?_
 refine Eq.trans ?_ (Eq.symm (show _=some _ from hr8))
 conv=>lhs;whnf
 exact rq
 exact fun h=>cq (hcont7 (IntKind.i64.wrap (s1+1)) (fun _=>0) h)
 intro h;cases sj h
 exact kq (hr8 (fun _=>0))
 refine lrc ?_ ?_
 intro v e;subst e;cases sj h;rfl
 intro t a13 e;subst e
 dsimp only at h
 conv=>lhs;whnf
 revert h
 exact rz
theorem ok_stmt_fits_1 {n:Nat} ⦃v0_part:Int⦄ ⦃v1_s:(List UInt8)⦄ ⦃o0_word:(List UInt8)⦄ ⦃o0_form:(List UInt8)⦄ ⦃o0_body:Bool⦄ ⦃o0_more:Bool⦄ ⦃r:Bool⦄:m_stmt_fits_1 n v0_part v1_s o0_word o0_form o0_body o0_more=some r→CN n 104 [AV.int .u8 v0_part,sA v1_s,AV.ptr 0 0] [Ob.var 120 [sA o0_word,sA o0_form,bA o0_body,bA o0_more]]=some (bA r,[Ob.var 120 [sA o0_word,sA o0_form,bA o0_body,bA o0_more]]):=by
 intro h;rcases n with _|n;cases h
 rw [m_stmt_fits_1] at h
 refine callN_eq' Tryz.func104 (by rfl) rfl rfl (Nat.le_of_ble_eq_true rfl) ?_
 intro call hc;conv=>lhs;whnf
 revert h
 refine ca hc (fun y1 h=>(show CN n 105 [AV.agg [sA o0_word,sA o0_form,bA o0_body,bA o0_more],AV.int .u8 v0_part] []=some (bA y1,[]) from ok_stmt_kind_has (r:=y1) h)) ?_;intro y1
 refine br ?_ ?_
 refine ca hc (fun _ h=>ok_scan_Name h) ?_;intro y4
 refine br ?_ ?_
 exact rz
 refine ca hc (fun y7 h=>(show CN n 105 [AV.agg [sA o0_word,sA o0_form,bA o0_body,bA o0_more],AV.int .u8 v0_part] []=some (bA y7,[]) from ok_stmt_kind_has (r:=y7) h)) ?_;intro y7
 refine br ?_ ?_
 exact rz
 exact rz
 refine ca hc (fun y10 h=>(show CN n 105 [AV.agg [sA o0_word,sA o0_form,bA o0_body,bA o0_more],AV.int .u8 v0_part] []=some (bA y10,[]) from ok_stmt_kind_has (r:=y10) h)) ?_;intro y10
 refine br ?_ ?_
 exact rz
 exact rz
theorem ok_stmt_plain {n:Nat} ⦃v0_l:(List S_api_Node)⦄ ⦃r:Bool⦄:m_stmt_plain n v0_l=some r→CN n 107 [AV.sl 5 (List.map c_api_Node v0_l)] []=some (bA r,[]):=by
 intro h;rcases n with _|n;cases h
 rw [m_stmt_plain] at h
 refine callN_eq' Tryz.func107 (by rfl) rfl rfl (Nat.le_of_ble_eq_true rfl) ?_
 intro call hc;conv=>lhs;whnf
 revert h
 refine ca hc (fun _ h=>ok_expr_Names h) ?_;intro y1
 intro h;refine bind_some2 h ?_;clear h;intro o11 ho11 h
 refine lq (σ:=Int) (τ:=Unit) (ν:=Bool) 0 (fun s3 a5=>stOf 18 [(0,AV.sl 5 (List.map c_api_Node v0_l)),(6,AV.sl 5 (List.map c_api_Node y1)),(7,iA (((y1.length:Nat):Int))),(8,iA s3)]) (fun s3 a5=>[]) (fun _ a15=>stOf 18 [(0,AV.sl 5 (List.map c_api_Node v0_l))]) (fun _ a15=>[]) (fun v=>(bA v,[])) (fun k s=>stmt_plain_L0 n y1 k s) (fun s=>rfl) o11 n 0 (fun _=>0) ho11 ?_ ?_
 intro k4 s3 a5 K6 cont7 hK8 hcont9 h hr10
 replace h:stmt_plain_L0 n y1 (k4+1) s3=some o11:=h
 rw [stmt_plain_L0] at h
 conv=>lhs;whnf
 revert h
 refine br ?_ ?_
 refine ix ?_;intro x13
 refine br ?_ ?_
 intro h;cases sj h
 refine (hK8 _ _).trans ?_
 refine Eq.trans ?_ (Eq.symm (show _=some _ from hr10))
 conv=>lhs;whnf
 exact rq
 exact fun h=>cq (hcont9 (IntKind.i64.wrap (s3+1)) (fun _=>0) h)
 intro h;cases sj h
 exact kq (hr10 (fun _=>0))
 refine lrc ?_ ?_
 intro v e;subst e;cases sj h;rfl
 intro t a15 e;subst e
 dsimp only at h
 conv=>lhs;whnf
 revert h
 refine ca hc (fun _ h=>ok_expr_Right h) ?_;intro y16
 exact rz
theorem ok_stmt_fits_2 {n:Nat} ⦃v0_part:Int⦄ ⦃v1_l:(List S_api_Node)⦄ ⦃o0_word:(List UInt8)⦄ ⦃o0_form:(List UInt8)⦄ ⦃o0_body:Bool⦄ ⦃o0_more:Bool⦄ ⦃r:Bool⦄:m_stmt_fits_2 n v0_part v1_l o0_word o0_form o0_body o0_more=some r→CN n 106 [AV.int .u8 v0_part,AV.sl 5 (List.map c_api_Node v1_l),AV.ptr 0 0] [Ob.var 120 [sA o0_word,sA o0_form,bA o0_body,bA o0_more]]=some (bA r,[Ob.var 120 [sA o0_word,sA o0_form,bA o0_body,bA o0_more]]):=by
 intro h;rcases n with _|n;cases h
 rw [m_stmt_fits_2] at h
 refine callN_eq' Tryz.func106 (by rfl) rfl rfl (Nat.le_of_ble_eq_true rfl) ?_
 intro call hc;conv=>lhs;whnf
 revert h
 refine ca hc (fun y1 h=>(show CN n 105 [AV.agg [sA o0_word,sA o0_form,bA o0_body,bA o0_more],AV.int .u8 v0_part] []=some (bA y1,[]) from ok_stmt_kind_has (r:=y1) h)) ?_;intro y1
 refine br ?_ ?_
 refine ca hc (fun _ h=>ok_stmt_plain h) ?_;intro y4
 refine br ?_ ?_
 exact rz
 refine ca hc (fun y7 h=>(show CN n 105 [AV.agg [sA o0_word,sA o0_form,bA o0_body,bA o0_more],AV.int .u8 v0_part] []=some (bA y7,[]) from ok_stmt_kind_has (r:=y7) h)) ?_;intro y7
 refine br ?_ ?_
 exact rz
 exact rz
 refine ca hc (fun y10 h=>(show CN n 105 [AV.agg [sA o0_word,sA o0_form,bA o0_body,bA o0_more],AV.int .u8 v0_part] []=some (bA y10,[]) from ok_stmt_kind_has (r:=y10) h)) ?_;intro y10
 refine br ?_ ?_
 exact rz
 exact rz
theorem ok_stmt_kinds {n:Nat} ⦃r:(List S_stmt_kind)⦄:m_stmt_kinds n=some r→CN n 118 [] []=some (AV.sl 4 (List.map c_stmt_kind r),[]):=by
 intro h;rcases n with _|n;cases h
 rw [m_stmt_kinds] at h
 refine callN_eq' Tryz.func118 (by rfl) rfl rfl (Nat.le_of_ble_eq_true rfl) ?_
 intro call hc;conv=>lhs;whnf
 revert h
 exact rz
theorem ok_stmt_of {n:Nat} ⦃v0_n:Int⦄ ⦃r:(S_stmt_kind×Bool)⦄:m_stmt_of n v0_n=some r→CN n 103 [iA v0_n] []=some (AV.tup [AV.agg [sA r.1.f_word,sA r.1.f_form,bA r.1.f_body,bA r.1.f_more],bA r.2],[]):=by
 intro h;rcases n with _|n;cases h
 rw [m_stmt_of] at h
 refine callN_eq' Tryz.func103 (by rfl) rfl rfl (Nat.le_of_ble_eq_true rfl) ?_
 intro call hc;conv=>lhs;whnf
 revert h
 refine ca hc (fun _ h=>ok_stmt_kinds h) ?_;intro y1
 refine br ?_ ?_
 exact rz
 refine br ?_ ?_
 exact rz
 refine ix ?_;intro x5
 exact rz
theorem ok_stmt_fits {n:Nat} ⦃v0_x:S_api_Stmt⦄ ⦃r:Bool⦄:m_stmt_fits n v0_x=some r→CN n 93 [AV.agg [iA v0_x.f_Kind,sA v0_x.f_Reg,sA v0_x.f_Loc,AV.sl 5 (List.map c_api_Node v0_x.f_E),AV.sl 5 (List.map c_api_Node v0_x.f_F),bA v0_x.f_Ne,iA v0_x.f_Body,iA v0_x.f_Else,iA v0_x.f_At]] []=some (bA r,[]):=by
 intro h;rcases n with _|n;cases h
 rw [m_stmt_fits] at h
 refine callN_eq' Tryz.func93 (by rfl) rfl rfl (Nat.le_of_ble_eq_true rfl) ?_
 intro call hc;conv=>lhs;whnf
 revert h
 refine ca hc (fun _ h=>ok_stmt_of h) ?_;intro y1
 refine br ?_ ?_
 refine br ?_ ?_
 exact rz
 refine br ?_ ?_
 refine ca hc (fun _ h=>ok_stmt_kind_has h) ?_;intro y6
 refine br ?_ ?_
 refine ca hc (fun _ h=>ok_stmt_fits_1 h) ?_;intro y9
 refine br ?_ ?_
 refine ca hc (fun _ h=>ok_stmt_fits_1 h) ?_;intro y12
 refine br ?_ ?_
 refine ca hc (fun _ h=>ok_stmt_fits_2 h) ?_;intro y15
 refine br ?_ ?_
 refine ca hc (fun _ h=>ok_stmt_fits_2 h) ?_;intro y18
 refine br ?_ ?_
 refine br ?_ ?_
 refine br ?_ ?_
 exact rz
 exact rz
 refine br ?_ ?_
 refine br ?_ ?_
 exact rz
 exact rz
 exact rz
 exact rz
 exact rz
 exact rz
 exact rz
 exact rz
 refine ca hc (fun _ h=>ok_stmt_fits_1 h) ?_;intro y25
 refine br ?_ ?_
 refine ca hc (fun _ h=>ok_stmt_fits_1 h) ?_;intro y28
 refine br ?_ ?_
 refine ca hc (fun _ h=>ok_stmt_fits_2 h) ?_;intro y31
 refine br ?_ ?_
 refine ca hc (fun _ h=>ok_stmt_fits_2 h) ?_;intro y34
 refine br ?_ ?_
 refine br ?_ ?_
 refine br ?_ ?_
 exact rz
 exact rz
 refine br ?_ ?_
 refine br ?_ ?_
 exact rz
 exact rz
 exact rz
 exact rz
 exact rz
 exact rz
 exact rz
 exact rz
theorem ok_stmt_Right {n:Nat} ⦃v0_l:(List S_api_Stmt)⦄ ⦃r:Bool⦄:m_stmt_Right n v0_l=some r→CN n 66 [AV.sl 9 (List.map c_api_Stmt v0_l)] []=some (bA r,[]):=by
 intro h;rcases n with _|n;cases h
 rw [m_stmt_Right] at h
 refine callN_eq' Tryz.func66 (by rfl) rfl rfl (Nat.le_of_ble_eq_true rfl) ?_
 intro call hc;conv=>lhs;whnf
 revert h
 refine ca hc (fun _ h=>ok_stmt_Depth h) ?_;intro y1
 refine br ?_ ?_
 exact rz
 refine br ?_ ?_
 exact rz
 refine br ?_ ?_
 exact rz
 intro h;refine bind_some2 h ?_;clear h;intro o14 ho14 h
 refine lq (σ:=Int) (τ:=Unit) (ν:=Bool) 0 (fun s6 a8=>stOf 29 [(19,AV.sl 9 (List.map c_api_Stmt v0_l)),(20,iA (((v0_l.length:Nat):Int))),(21,iA s6)]) (fun s6 a8=>[]) (fun _ a20=>stOf 29 []) (fun _ a20=>[]) (fun v=>(bA v,[])) (fun k s=>stmt_Right_L0 n v0_l k s) (fun s=>rfl) o14 n 0 (fun _=>0) ho14 ?_ ?_
 intro k7 s6 a8 K9 cont10 hK11 hcont12 h hr13
 replace h:stmt_Right_L0 n v0_l (k7+1) s6=some o14:=h
 rw [stmt_Right_L0] at h
 conv=>lhs;whnf
 revert h
 refine br ?_ ?_
 refine ix ?_;intro x16
 refine ca hc (fun _ h=>ok_stmt_fits h) ?_;intro y17
 refine br ?_ ?_
 exact fun h=>cq (hcont12 (IntKind.i64.wrap (s6+1)) (fun _=>0) h)
 intro h;cases sj h
 refine (hK11 _ _).trans ?_
 refine Eq.trans ?_ (Eq.symm (show _=some _ from hr13))
 conv=>lhs;whnf
 exact rq
 intro h;cases sj h
 exact kq (hr13 (fun _=>0))
 refine lrc ?_ ?_
 intro v e;subst e;cases sj h;rfl
 intro t a20 e;subst e
 dsimp only at h
 conv=>lhs;whnf
 revert h
 exact rz
end Go.Proofs.YtpnhafdimkmbbaaGreat
end
section
namespace Go.Proofs.YtpnhafdimkmbbaaGreat
set_option linter.unusedVariables false
set_option linter.unusedSimpArgs false
set_option maxRecDepth 100000
set_option maxHeartbeats 4000000
theorem ok_prog_number {n:Nat} ⦃v0_n:Int⦄ ⦃r:Bool⦄:m_prog_number n v0_n=some r→CN n 34 [iA v0_n] []=some (bA r,[]):=by
 intro h;rcases n with _|n;cases h
 rw [m_prog_number] at h
 refine callN_eq' Tryz.func34 (by rfl) rfl rfl (Nat.le_of_ble_eq_true rfl) ?_
 intro call hc;conv=>lhs;whnf
 revert h
 refine br ?_ ?_
 exact rz
 exact rz
theorem ok_prog_Right_1 {n:Nat} ⦃v0_i:Int⦄ ⦃o0_Mod:Int⦄ ⦃o0_Locs:(List S_api_Var)⦄ ⦃o0_Threads:(List S_api_Thread)⦄ ⦃o0_Claims:(List S_api_Claim)⦄ ⦃r:Bool⦄:m_prog_Right_1 n v0_i o0_Mod o0_Locs o0_Threads o0_Claims=some r→CN n 32 [iA v0_i,AV.ptr 0 0] [Ob.var 26 [iA o0_Mod,AV.sl 3 (List.map c_api_Var o0_Locs),AV.sl 4 (List.map c_api_Thread o0_Threads),AV.sl 3 (List.map c_api_Claim o0_Claims)]]=some (bA r,[Ob.var 26 [iA o0_Mod,AV.sl 3 (List.map c_api_Var o0_Locs),AV.sl 4 (List.map c_api_Thread o0_Threads),AV.sl 3 (List.map c_api_Claim o0_Claims)]]):=by
 intro h;rcases n with _|n;cases h
 rw [m_prog_Right_1] at h
 refine callN_eq' Tryz.func32 (by rfl) rfl rfl (Nat.le_of_ble_eq_true rfl) ?_
 intro call hc;conv=>lhs;whnf
 revert h
 refine ix ?_;intro x1
 refine ca hc (fun _ h=>ok_scan_Name h) ?_;intro y2
 refine br ?_ ?_
 refine ca hc (fun _ h=>ok_prog_number h) ?_;intro y5
 refine br ?_ ?_
 exact rz
 exact rz
 exact rz
theorem ok_prog_all {n:Nat} ⦃v0_n:Int⦄ ⦃o0_Mod:Int⦄ ⦃o0_Locs:(List S_api_Var)⦄ ⦃o0_Threads:(List S_api_Thread)⦄ ⦃o0_Claims:(List S_api_Claim)⦄ ⦃r:Bool⦄:m_prog_all n v0_n o0_Mod o0_Locs o0_Threads o0_Claims=some r→CN n 31 [iA v0_n,AV.func 32 [] [AV.ptr 0 0]] [Ob.var 26 [iA o0_Mod,AV.sl 3 (List.map c_api_Var o0_Locs),AV.sl 4 (List.map c_api_Thread o0_Threads),AV.sl 3 (List.map c_api_Claim o0_Claims)]]=some (bA r,[Ob.var 26 [iA o0_Mod,AV.sl 3 (List.map c_api_Var o0_Locs),AV.sl 4 (List.map c_api_Thread o0_Threads),AV.sl 3 (List.map c_api_Claim o0_Claims)]]):=by
 intro h;rcases n with _|n;cases h
 rw [m_prog_all] at h
 refine callN_eq' Tryz.func31 (by rfl) rfl rfl (Nat.le_of_ble_eq_true rfl) ?_
 intro call hc;conv=>lhs;whnf
 revert h
 intro h;refine bind_some2 h ?_;clear h;intro o9 ho9 h
 refine lq (σ:=Int) (τ:=Unit) (ν:=Bool) 0 (fun s1 a3=>stOf 15 [(1,AV.func 32 [] [AV.ptr 0 0]),(6,iA v0_n),(7,iA s1)]) (fun s1 a3=>[Ob.var 26 [iA o0_Mod,AV.sl 3 (List.map c_api_Var o0_Locs),AV.sl 4 (List.map c_api_Thread o0_Threads),AV.sl 3 (List.map c_api_Claim o0_Claims)]]) (fun _ a14=>stOf 15 []) (fun _ a14=>[Ob.var 26 [iA o0_Mod,AV.sl 3 (List.map c_api_Var o0_Locs),AV.sl 4 (List.map c_api_Thread o0_Threads),AV.sl 3 (List.map c_api_Claim o0_Claims)]]) (fun v=>(bA v,[Ob.var 26 [iA o0_Mod,AV.sl 3 (List.map c_api_Var o0_Locs),AV.sl 4 (List.map c_api_Thread o0_Threads),AV.sl 3 (List.map c_api_Claim o0_Claims)]])) (fun k s=>prog_all_L0 n v0_n o0_Mod o0_Locs o0_Threads o0_Claims k s) (fun s=>rfl) o9 n 0 (fun _=>0) ho9 ?_ ?_
 intro k2 s1 a3 K4 cont5 hK6 hcont7 h hr8
 replace h:prog_all_L0 n v0_n o0_Mod o0_Locs o0_Threads o0_Claims (k2+1) s1=some o9:=h
 rw [prog_all_L0] at h
 conv=>lhs;whnf
 revert h
 refine br ?_ ?_
 refine ca hc (fun _ h=>ok_prog_Right_1 h) ?_;intro y11
 refine br ?_ ?_
 exact fun h=>cq (hcont7 (IntKind.i64.wrap (s1+1)) (fun _=>0) h)
 intro h;cases sj h
 refine (hK6 _ _).trans ?_
 refine Eq.trans ?_ (Eq.symm (show _=some _ from hr8))
 conv=>lhs;whnf
 exact rq
 intro h;cases sj h
 exact kq (hr8 (fun _=>0))
 refine lrc ?_ ?_
 intro v e;subst e;cases sj h;rfl
 intro t a14 e;subst e
 dsimp only at h
 conv=>lhs;whnf
 revert h
 exact rz
theorem ok_prog_thread_1 {n:Nat} ⦃v0_i:Int⦄ ⦃o0_Name:(List UInt8)⦄ ⦃o0_Regs:(List (List UInt8))⦄ ⦃o0_Body:(List S_api_Stmt)⦄ ⦃o0_At:Int⦄ ⦃r:Bool⦄:m_prog_thread_1 n v0_i o0_Name o0_Regs o0_Body o0_At=some r→CN n 67 [iA v0_i,AV.ptr 0 0] [Ob.var 40 [sA o0_Name,AV.sl 1 (List.map encS o0_Regs),AV.sl 9 (List.map c_api_Stmt o0_Body),iA o0_At]]=some (bA r,[Ob.var 40 [sA o0_Name,AV.sl 1 (List.map encS o0_Regs),AV.sl 9 (List.map c_api_Stmt o0_Body),iA o0_At]]):=by
 intro h;rcases n with _|n;cases h
 rw [m_prog_thread_1] at h
 refine callN_eq' Tryz.func67 (by rfl) rfl rfl (Nat.le_of_ble_eq_true rfl) ?_
 intro call hc;conv=>lhs;whnf
 revert h
 refine ix ?_;intro x1
 refine ca hc (fun _ h=>ok_scan_Name h) ?_;intro y2
 exact rz
theorem ok_prog_all_3 {n:Nat} ⦃v0_n:Int⦄ ⦃o0_Name:(List UInt8)⦄ ⦃o0_Regs:(List (List UInt8))⦄ ⦃o0_Body:(List S_api_Stmt)⦄ ⦃o0_At:Int⦄ ⦃r:Bool⦄:m_prog_all_3 n v0_n o0_Name o0_Regs o0_Body o0_At=some r→CN n 31 [iA v0_n,AV.func 67 [] [AV.ptr 0 0]] [Ob.var 40 [sA o0_Name,AV.sl 1 (List.map encS o0_Regs),AV.sl 9 (List.map c_api_Stmt o0_Body),iA o0_At]]=some (bA r,[Ob.var 40 [sA o0_Name,AV.sl 1 (List.map encS o0_Regs),AV.sl 9 (List.map c_api_Stmt o0_Body),iA o0_At]]):=by
 intro h;rcases n with _|n;cases h
 rw [m_prog_all_3] at h
 refine callN_eq' Tryz.func31 (by rfl) rfl rfl (Nat.le_of_ble_eq_true rfl) ?_
 intro call hc;conv=>lhs;whnf
 revert h
 intro h;refine bind_some2 h ?_;clear h;intro o9 ho9 h
 refine lq (σ:=Int) (τ:=Unit) (ν:=Bool) 0 (fun s1 a3=>stOf 15 [(1,AV.func 67 [] [AV.ptr 0 0]),(6,iA v0_n),(7,iA s1)]) (fun s1 a3=>[Ob.var 40 [sA o0_Name,AV.sl 1 (List.map encS o0_Regs),AV.sl 9 (List.map c_api_Stmt o0_Body),iA o0_At]]) (fun _ a14=>stOf 15 []) (fun _ a14=>[Ob.var 40 [sA o0_Name,AV.sl 1 (List.map encS o0_Regs),AV.sl 9 (List.map c_api_Stmt o0_Body),iA o0_At]]) (fun v=>(bA v,[Ob.var 40 [sA o0_Name,AV.sl 1 (List.map encS o0_Regs),AV.sl 9 (List.map c_api_Stmt o0_Body),iA o0_At]])) (fun k s=>prog_all_3_L0 n v0_n o0_Name o0_Regs o0_Body o0_At k s) (fun s=>rfl) o9 n 0 (fun _=>0) ho9 ?_ ?_
 intro k2 s1 a3 K4 cont5 hK6 hcont7 h hr8
 replace h:prog_all_3_L0 n v0_n o0_Name o0_Regs o0_Body o0_At (k2+1) s1=some o9:=h
 rw [prog_all_3_L0] at h
 conv=>lhs;whnf
 revert h
 refine br ?_ ?_
 refine ca hc (fun _ h=>ok_prog_thread_1 h) ?_;intro y11
 refine br ?_ ?_
 exact fun h=>cq (hcont7 (IntKind.i64.wrap (s1+1)) (fun _=>0) h)
 intro h;cases sj h
 refine (hK6 _ _).trans ?_
 refine Eq.trans ?_ (Eq.symm (show _=some _ from hr8))
 conv=>lhs;whnf
 exact rq
 intro h;cases sj h
 exact kq (hr8 (fun _=>0))
 refine lrc ?_ ?_
 intro v e;subst e;cases sj h;rfl
 intro t a14 e;subst e
 dsimp only at h
 conv=>lhs;whnf
 revert h
 exact rz
theorem ok_prog_thread {n:Nat} ⦃v0_t:S_api_Thread⦄ ⦃r:Bool⦄:m_prog_thread n v0_t=some r→CN n 36 [AV.agg [sA v0_t.f_Name,AV.sl 1 (List.map encS v0_t.f_Regs),AV.sl 9 (List.map c_api_Stmt v0_t.f_Body),iA v0_t.f_At]] []=some (bA r,[]):=by
 intro h;rcases n with _|n;cases h
 rw [m_prog_thread] at h
 refine callN_eq' Tryz.func36 (by rfl) rfl rfl (Nat.le_of_ble_eq_true rfl) ?_
 intro call hc;conv=>lhs;whnf
 revert h
 refine ca hc (fun _ h=>ok_scan_Name h) ?_;intro y1
 refine br ?_ ?_
 refine br ?_ ?_
 refine ca hc (fun _ h=>ok_stmt_Right h) ?_;intro y5
 refine br ?_ ?_
 refine cr hc (fun _ h=>ok_prog_all_3 h) ?_;intro y8
 exact rz
 exact rz
 exact rz
 exact rz
theorem ok_prog_Right_2 {n:Nat} ⦃v0_i:Int⦄ ⦃o0_Mod:Int⦄ ⦃o0_Locs:(List S_api_Var)⦄ ⦃o0_Threads:(List S_api_Thread)⦄ ⦃o0_Claims:(List S_api_Claim)⦄ ⦃r:Bool⦄:m_prog_Right_2 n v0_i o0_Mod o0_Locs o0_Threads o0_Claims=some r→CN n 35 [iA v0_i,AV.ptr 0 0] [Ob.var 26 [iA o0_Mod,AV.sl 3 (List.map c_api_Var o0_Locs),AV.sl 4 (List.map c_api_Thread o0_Threads),AV.sl 3 (List.map c_api_Claim o0_Claims)]]=some (bA r,[Ob.var 26 [iA o0_Mod,AV.sl 3 (List.map c_api_Var o0_Locs),AV.sl 4 (List.map c_api_Thread o0_Threads),AV.sl 3 (List.map c_api_Claim o0_Claims)]]):=by
 intro h;rcases n with _|n;cases h
 rw [m_prog_Right_2] at h
 refine callN_eq' Tryz.func35 (by rfl) rfl rfl (Nat.le_of_ble_eq_true rfl) ?_
 intro call hc;conv=>lhs;whnf
 revert h
 refine ix ?_;intro x1
 refine ca hc (fun _ h=>ok_prog_thread h) ?_;intro y2
 exact rz
theorem ok_prog_all_1 {n:Nat} ⦃v0_n:Int⦄ ⦃o0_Mod:Int⦄ ⦃o0_Locs:(List S_api_Var)⦄ ⦃o0_Threads:(List S_api_Thread)⦄ ⦃o0_Claims:(List S_api_Claim)⦄ ⦃r:Bool⦄:m_prog_all_1 n v0_n o0_Mod o0_Locs o0_Threads o0_Claims=some r→CN n 31 [iA v0_n,AV.func 35 [] [AV.ptr 0 0]] [Ob.var 26 [iA o0_Mod,AV.sl 3 (List.map c_api_Var o0_Locs),AV.sl 4 (List.map c_api_Thread o0_Threads),AV.sl 3 (List.map c_api_Claim o0_Claims)]]=some (bA r,[Ob.var 26 [iA o0_Mod,AV.sl 3 (List.map c_api_Var o0_Locs),AV.sl 4 (List.map c_api_Thread o0_Threads),AV.sl 3 (List.map c_api_Claim o0_Claims)]]):=by
 intro h;rcases n with _|n;cases h
 rw [m_prog_all_1] at h
 refine callN_eq' Tryz.func31 (by rfl) rfl rfl (Nat.le_of_ble_eq_true rfl) ?_
 intro call hc;conv=>lhs;whnf
 revert h
 intro h;refine bind_some2 h ?_;clear h;intro o9 ho9 h
 refine lq (σ:=Int) (τ:=Unit) (ν:=Bool) 0 (fun s1 a3=>stOf 15 [(1,AV.func 35 [] [AV.ptr 0 0]),(6,iA v0_n),(7,iA s1)]) (fun s1 a3=>[Ob.var 26 [iA o0_Mod,AV.sl 3 (List.map c_api_Var o0_Locs),AV.sl 4 (List.map c_api_Thread o0_Threads),AV.sl 3 (List.map c_api_Claim o0_Claims)]]) (fun _ a14=>stOf 15 []) (fun _ a14=>[Ob.var 26 [iA o0_Mod,AV.sl 3 (List.map c_api_Var o0_Locs),AV.sl 4 (List.map c_api_Thread o0_Threads),AV.sl 3 (List.map c_api_Claim o0_Claims)]]) (fun v=>(bA v,[Ob.var 26 [iA o0_Mod,AV.sl 3 (List.map c_api_Var o0_Locs),AV.sl 4 (List.map c_api_Thread o0_Threads),AV.sl 3 (List.map c_api_Claim o0_Claims)]])) (fun k s=>prog_all_1_L0 n v0_n o0_Mod o0_Locs o0_Threads o0_Claims k s) (fun s=>rfl) o9 n 0 (fun _=>0) ho9 ?_ ?_
 intro k2 s1 a3 K4 cont5 hK6 hcont7 h hr8
 replace h:prog_all_1_L0 n v0_n o0_Mod o0_Locs o0_Threads o0_Claims (k2+1) s1=some o9:=h
 rw [prog_all_1_L0] at h
 conv=>lhs;whnf
 revert h
 refine br ?_ ?_
 refine ca hc (fun _ h=>ok_prog_Right_2 h) ?_;intro y11
 refine br ?_ ?_
 exact fun h=>cq (hcont7 (IntKind.i64.wrap (s1+1)) (fun _=>0) h)
 intro h;cases sj h
 refine (hK6 _ _).trans ?_
 refine Eq.trans ?_ (Eq.symm (show _=some _ from hr8))
 conv=>lhs;whnf
 exact rq
 intro h;cases sj h
 exact kq (hr8 (fun _=>0))
 refine lrc ?_ ?_
 intro v e;subst e;cases sj h;rfl
 intro t a14 e;subst e
 dsimp only at h
 conv=>lhs;whnf
 revert h
 exact rz
theorem ok_prog_word {n:Nat} ⦃v0_kind:Int⦄ ⦃r:(List UInt8)⦄:m_prog_word n v0_kind=some r→CN n 69 [iA v0_kind] []=some (sA r,[]):=by
 intro h;rcases n with _|n;cases h
 rw [m_prog_word] at h
 refine callN_eq' Tryz.func69 (by rfl) rfl rfl (Nat.le_of_ble_eq_true rfl) ?_
 intro call hc;conv=>lhs;whnf
 revert h
 refine br ?_ ?_
 exact rz
 refine br ?_ ?_
 exact rz
 refine br ?_ ?_
 exact rz
 exact rz
theorem ok_prog_claim {n:Nat} ⦃v0_c:S_api_Claim⦄ ⦃r:Bool⦄:m_prog_claim n v0_c=some r→CN n 38 [AV.agg [iA v0_c.f_Kind,AV.sl 5 (List.map c_api_Node v0_c.f_E),iA v0_c.f_At]] []=some (bA r,[]):=by
 intro h;rcases n with _|n;cases h
 rw [m_prog_claim] at h
 refine callN_eq' Tryz.func38 (by rfl) rfl rfl (Nat.le_of_ble_eq_true rfl) ?_
 intro call hc;conv=>lhs;whnf
 revert h
 refine ca hc (fun _ h=>ok_expr_Names h) ?_;intro y1
 intro h;refine bind_some2 h ?_;clear h;intro o11 ho11 h
 refine lq (σ:=Int) (τ:=Unit) (ν:=Bool) 0 (fun s3 a5=>stOf 31 [(1,AV.ptr 0 0),(7,AV.sl 5 (List.map c_api_Node y1)),(8,iA (((y1.length:Nat):Int))),(9,iA s3)]) (fun s3 a5=>[Ob.var 45 [iA v0_c.f_Kind,AV.sl 5 (List.map c_api_Node v0_c.f_E),iA v0_c.f_At]]) (fun _ a15=>stOf 31 [(1,AV.ptr 0 0)]) (fun _ a15=>[Ob.var 45 [iA v0_c.f_Kind,AV.sl 5 (List.map c_api_Node v0_c.f_E),iA v0_c.f_At]]) (fun v=>(bA v,[])) (fun k s=>prog_claim_L0 n y1 k s) (fun s=>rfl) o11 n 0 (fun _=>0) ho11 ?_ ?_
 intro k4 s3 a5 K6 cont7 hK8 hcont9 h hr10
 replace h:prog_claim_L0 n y1 (k4+1) s3=some o11:=h
 rw [prog_claim_L0] at h
 conv=>lhs;whnf
 revert h
 refine br ?_ ?_
 refine ix ?_;intro x13
 refine br ?_ ?_
 intro h;cases sj h
 refine (hK8 _ _).trans ?_
 refine Eq.trans ?_ (Eq.symm (show _=some _ from hr10))
 conv=>lhs;whnf
 exact rq
 exact fun h=>cq (hcont9 (IntKind.i64.wrap (s3+1)) (fun _=>0) h)
 intro h;cases sj h
 exact kq (hr10 (fun _=>0))
 refine lrc ?_ ?_
 intro v e;subst e;cases sj h;rfl
 intro t a15 e;subst e
 dsimp only at h
 conv=>lhs;whnf
 revert h
 refine ca hc (fun _ h=>ok_prog_word h) ?_;intro y16
 refine br ?_ ?_
 exact rz
 refine ca hc (fun _ h=>ok_expr_Right h) ?_;intro y19
 refine br ?_ ?_
 exact rz
 exact rz
theorem ok_prog_Right_3 {n:Nat} ⦃v0_i:Int⦄ ⦃o0_Mod:Int⦄ ⦃o0_Locs:(List S_api_Var)⦄ ⦃o0_Threads:(List S_api_Thread)⦄ ⦃o0_Claims:(List S_api_Claim)⦄ ⦃r:Bool⦄:m_prog_Right_3 n v0_i o0_Mod o0_Locs o0_Threads o0_Claims=some r→CN n 37 [iA v0_i,AV.ptr 0 0] [Ob.var 26 [iA o0_Mod,AV.sl 3 (List.map c_api_Var o0_Locs),AV.sl 4 (List.map c_api_Thread o0_Threads),AV.sl 3 (List.map c_api_Claim o0_Claims)]]=some (bA r,[Ob.var 26 [iA o0_Mod,AV.sl 3 (List.map c_api_Var o0_Locs),AV.sl 4 (List.map c_api_Thread o0_Threads),AV.sl 3 (List.map c_api_Claim o0_Claims)]]):=by
 intro h;rcases n with _|n;cases h
 rw [m_prog_Right_3] at h
 refine callN_eq' Tryz.func37 (by rfl) rfl rfl (Nat.le_of_ble_eq_true rfl) ?_
 intro call hc;conv=>lhs;whnf
 revert h
 refine ix ?_;intro x1
 refine ca hc (fun _ h=>ok_prog_claim h) ?_;intro y2
 exact rz
theorem ok_prog_all_2 {n:Nat} ⦃v0_n:Int⦄ ⦃o0_Mod:Int⦄ ⦃o0_Locs:(List S_api_Var)⦄ ⦃o0_Threads:(List S_api_Thread)⦄ ⦃o0_Claims:(List S_api_Claim)⦄ ⦃r:Bool⦄:m_prog_all_2 n v0_n o0_Mod o0_Locs o0_Threads o0_Claims=some r→CN n 31 [iA v0_n,AV.func 37 [] [AV.ptr 0 0]] [Ob.var 26 [iA o0_Mod,AV.sl 3 (List.map c_api_Var o0_Locs),AV.sl 4 (List.map c_api_Thread o0_Threads),AV.sl 3 (List.map c_api_Claim o0_Claims)]]=some (bA r,[Ob.var 26 [iA o0_Mod,AV.sl 3 (List.map c_api_Var o0_Locs),AV.sl 4 (List.map c_api_Thread o0_Threads),AV.sl 3 (List.map c_api_Claim o0_Claims)]]):=by
 intro h;rcases n with _|n;cases h
 rw [m_prog_all_2] at h
 refine callN_eq' Tryz.func31 (by rfl) rfl rfl (Nat.le_of_ble_eq_true rfl) ?_
 intro call hc;conv=>lhs;whnf
 revert h
 intro h;refine bind_some2 h ?_;clear h;intro o9 ho9 h
 refine lq (σ:=Int) (τ:=Unit) (ν:=Bool) 0 (fun s1 a3=>stOf 15 [(1,AV.func 37 [] [AV.ptr 0 0]),(6,iA v0_n),(7,iA s1)]) (fun s1 a3=>[Ob.var 26 [iA o0_Mod,AV.sl 3 (List.map c_api_Var o0_Locs),AV.sl 4 (List.map c_api_Thread o0_Threads),AV.sl 3 (List.map c_api_Claim o0_Claims)]]) (fun _ a14=>stOf 15 []) (fun _ a14=>[Ob.var 26 [iA o0_Mod,AV.sl 3 (List.map c_api_Var o0_Locs),AV.sl 4 (List.map c_api_Thread o0_Threads),AV.sl 3 (List.map c_api_Claim o0_Claims)]]) (fun v=>(bA v,[Ob.var 26 [iA o0_Mod,AV.sl 3 (List.map c_api_Var o0_Locs),AV.sl 4 (List.map c_api_Thread o0_Threads),AV.sl 3 (List.map c_api_Claim o0_Claims)]])) (fun k s=>prog_all_2_L0 n v0_n o0_Mod o0_Locs o0_Threads o0_Claims k s) (fun s=>rfl) o9 n 0 (fun _=>0) ho9 ?_ ?_
 intro k2 s1 a3 K4 cont5 hK6 hcont7 h hr8
 replace h:prog_all_2_L0 n v0_n o0_Mod o0_Locs o0_Threads o0_Claims (k2+1) s1=some o9:=h
 rw [prog_all_2_L0] at h
 conv=>lhs;whnf
 revert h
 refine br ?_ ?_
 refine ca hc (fun _ h=>ok_prog_Right_3 h) ?_;intro y11
 refine br ?_ ?_
 exact fun h=>cq (hcont7 (IntKind.i64.wrap (s1+1)) (fun _=>0) h)
 intro h;cases sj h
 refine (hK6 _ _).trans ?_
 refine Eq.trans ?_ (Eq.symm (show _=some _ from hr8))
 conv=>lhs;whnf
 exact rq
 intro h;cases sj h
 exact kq (hr8 (fun _=>0))
 refine lrc ?_ ?_
 intro v e;subst e;cases sj h;rfl
 intro t a14 e;subst e
 dsimp only at h
 conv=>lhs;whnf
 revert h
 exact rz
theorem ok_prog_Right {n:Nat} ⦃v0_p:S_api_Prog⦄ ⦃r:Bool⦄:m_prog_Right n v0_p=some r→CN n 17 [AV.agg [iA v0_p.f_Mod,AV.sl 3 (List.map c_api_Var v0_p.f_Locs),AV.sl 4 (List.map c_api_Thread v0_p.f_Threads),AV.sl 3 (List.map c_api_Claim v0_p.f_Claims)]] []=some (bA r,[]):=by
 intro h;rcases n with _|n;cases h
 rw [m_prog_Right] at h
 refine callN_eq' Tryz.func17 (by rfl) rfl rfl (Nat.le_of_ble_eq_true rfl) ?_
 intro call hc;conv=>lhs;whnf
 revert h
 refine cr hc (fun _ h=>ok_prog_all h) ?_;intro y1
 refine ca hc (fun _ h=>ok_prog_number h) ?_;intro y3
 refine br ?_ ?_
 refine br ?_ ?_
 refine cr hc (fun _ h=>ok_prog_all_1 h) ?_;intro y7
 refine br ?_ ?_
 refine cr hc (fun _ h=>ok_prog_all_2 h) ?_;intro y10
 exact rz
 exact rz
 exact rz
 exact rz
end Go.Proofs.YtpnhafdimkmbbaaGreat
end
section
namespace Go.Proofs.YtpnhafdimkmbbaaGreat
set_option linter.unusedVariables false
set_option linter.unusedSimpArgs false
set_option maxRecDepth 100000
set_option maxHeartbeats 4000000
theorem ok_legal_Check {n:Nat} ⦃v0_p:S_api_Prog⦄ ⦃r:(Int×Int)⦄:m_legal_Check n v0_p=some r→CN n 8 [AV.agg [iA v0_p.f_Mod,AV.sl 3 (List.map c_api_Var v0_p.f_Locs),AV.sl 4 (List.map c_api_Thread v0_p.f_Threads),AV.sl 3 (List.map c_api_Claim v0_p.f_Claims)]] []=some (AV.tup [iA r.1,iA r.2],[]):=by
 intro h;rcases n with _|n;cases h
 rw [m_legal_Check] at h
 refine callN_eq' Tryz.func8 (by rfl) rfl rfl (Nat.le_of_ble_eq_true rfl) ?_
 intro call hc;conv=>lhs;whnf
 revert h
 refine ca hc (fun _ h=>ok_prog_Right h) ?_;intro y1
 refine br ?_ ?_
 refine br ?_ ?_
 refine cr hc (fun y5 h=>(show CN n 18 [AV.ptr 0 0,bA (decide (v0_p.f_Mod≤16)),iA (11),iA (0)] [Ob.var 52 [iA v0_p.f_Mod,AV.sl 3 (List.map c_api_Var v0_p.f_Locs),AV.sl 4 (List.map c_api_Thread v0_p.f_Threads),AV.sl 3 (List.map c_api_Claim v0_p.f_Claims),AV.mapp 1,AV.mapp 2,iA (0),iA (0)],Ob.mp none false ([]),Ob.mp none false ([])]=some (bA y5.1,[Ob.var 52 [iA v0_p.f_Mod,AV.sl 3 (List.map c_api_Var v0_p.f_Locs),AV.sl 4 (List.map c_api_Thread v0_p.f_Threads),AV.sl 3 (List.map c_api_Claim v0_p.f_Claims),AV.mapp 1,AV.mapp 2,iA y5.2.1,iA y5.2.2],Ob.mp none false ([]),Ob.mp none false ([])]) from ok_legal_checker_must (r:=y5) h)) ?_;intro y5
 refine cr hc (fun y7 h=>(show CN n 19 [AV.ptr 0 0] [Ob.var 52 [iA v0_p.f_Mod,AV.sl 3 (List.map c_api_Var v0_p.f_Locs),AV.sl 4 (List.map c_api_Thread v0_p.f_Threads),AV.sl 3 (List.map c_api_Claim v0_p.f_Claims),AV.mapp 1,AV.mapp 2,iA y5.2.1,iA y5.2.2],Ob.mp none false ([]),Ob.mp none false ([])]=some (AV.tup [],[Ob.var 52 [iA v0_p.f_Mod,AV.sl 3 (List.map c_api_Var v0_p.f_Locs),AV.sl 4 (List.map c_api_Thread v0_p.f_Threads),AV.sl 3 (List.map c_api_Claim v0_p.f_Claims),AV.mapp 1,AV.mapp 2,iA y7.1,iA y7.2.1],Ob.mp none false (List.map c_mp_map_string_int y7.2.2),Ob.mp none false ([])]) from ok_legal_checker_vars (r:=y7) h)) ?_;intro y7
 refine cr hc (fun y9 h=>(show CN n 18 [AV.ptr 0 0,bA (decide (0<((v0_p.f_Threads.length:Nat):Int))),iA (12),iA (0)] [Ob.var 52 [iA v0_p.f_Mod,AV.sl 3 (List.map c_api_Var v0_p.f_Locs),AV.sl 4 (List.map c_api_Thread v0_p.f_Threads),AV.sl 3 (List.map c_api_Claim v0_p.f_Claims),AV.mapp 1,AV.mapp 2,iA y7.1,iA y7.2.1],Ob.mp none false (List.map c_mp_map_string_int y7.2.2),Ob.mp none false ([])]=some (bA y9.1,[Ob.var 52 [iA v0_p.f_Mod,AV.sl 3 (List.map c_api_Var v0_p.f_Locs),AV.sl 4 (List.map c_api_Thread v0_p.f_Threads),AV.sl 3 (List.map c_api_Claim v0_p.f_Claims),AV.mapp 1,AV.mapp 2,iA y9.2.1,iA y9.2.2],Ob.mp none false (List.map c_mp_map_string_int y7.2.2),Ob.mp none false ([])]) from ok_legal_checker_must (r:=y9) h)) ?_;intro y9
 intro h;refine bind_some2 h ?_;clear h;intro o22 ho22 h
 refine lq (σ:=(Int×(List ((List UInt8)×(List ((List UInt8)×Int))))×Int×Int)) (τ:=(Int×Int×(List ((List UInt8)×(List ((List UInt8)×Int)))))) (ν:=(Int×Int)) 0 (fun (s11,s12,s13,s14) a16=>stOf 69 [(1,AV.ptr 0 0),(4,AV.ptr 3 0),(36,AV.sl 4 (List.map c_api_Thread v0_p.f_Threads)),(37,iA (((v0_p.f_Threads.length:Nat):Int))),(38,iA s11)]) (fun (s11,s12,s13,s14) a16=>[Ob.var 26 [iA v0_p.f_Mod,AV.sl 3 (List.map c_api_Var v0_p.f_Locs),AV.sl 4 (List.map c_api_Thread v0_p.f_Threads),AV.sl 3 (List.map c_api_Claim v0_p.f_Claims)],Ob.mp none false (List.map c_mp_map_string_int y7.2.2),Ob.mp none false (List.map c_mp_map_string_map_string_int s12),Ob.var 52 [iA v0_p.f_Mod,AV.sl 3 (List.map c_api_Var v0_p.f_Locs),AV.sl 4 (List.map c_api_Thread v0_p.f_Threads),AV.sl 3 (List.map c_api_Claim v0_p.f_Claims),AV.mapp 1,AV.mapp 2,iA s13,iA s14]]) (fun (x28,x29,x30) a27=>stOf 69 [(1,AV.ptr 0 0),(4,AV.ptr 3 0)]) (fun (x28,x29,x30) a27=>[Ob.var 26 [iA v0_p.f_Mod,AV.sl 3 (List.map c_api_Var v0_p.f_Locs),AV.sl 4 (List.map c_api_Thread v0_p.f_Threads),AV.sl 3 (List.map c_api_Claim v0_p.f_Claims)],Ob.mp none false (List.map c_mp_map_string_int y7.2.2),Ob.mp none false (List.map c_mp_map_string_map_string_int x30),Ob.var 52 [iA v0_p.f_Mod,AV.sl 3 (List.map c_api_Var v0_p.f_Locs),AV.sl 4 (List.map c_api_Thread v0_p.f_Threads),AV.sl 3 (List.map c_api_Claim v0_p.f_Claims),AV.mapp 1,AV.mapp 2,iA x28,iA x29]]) (fun v=>(AV.tup [iA v.1,iA v.2],[])) (fun k s=>legal_Check_L0 n v0_p y7 k s.1 s.2.1 s.2.2.1 s.2.2.2) (fun s=>rfl) o22 n (0,([]:(List ((List UInt8)×(List ((List UInt8)×Int))))),y9.2.1,y9.2.2) (fun _=>0) ho22 ?_ ?_
 intro k15 ss a16 K17 cont18 hK19 hcont20 h hr21
 obtain ⟨s11,s12,s13,s14⟩:=ss
 replace h:legal_Check_L0 n v0_p y7 (k15+1) s11 s12 s13 s14=some o22:=h
 rw [legal_Check_L0] at h
 conv=>lhs;whnf
 revert h
 refine br ?_ ?_
 refine ix ?_;intro x24
 refine ca hc (fun _ h=>ok_legal_checker_thread h) ?_;intro y25
 exact fun h=>cq (hcont20 (IntKind.i64.wrap (s11+1),y25.2.2,y25.1,y25.2.1) (fun _=>0) h)
 intro h;cases sj h
 exact kq (hr21 (fun _=>0))
 refine lrc ?_ ?_
 intro v e;subst e;cases sj h;rfl
 intro t a27 e;subst e
 obtain ⟨x28,x29,x30⟩:=t
 dsimp only at h
 conv=>lhs;whnf
 revert h
 intro h;refine bind_some2 h ?_;clear h;intro o41 ho41 h
 refine lq (σ:=(Int×Int×Int)) (τ:=(Int×Int)) (ν:=(Int×Int)) 2 (fun (s31,s32,s33) a35=>stOf 69 [(4,AV.ptr 3 0),(49,AV.sl 3 (List.map c_api_Claim v0_p.f_Claims)),(50,iA (((v0_p.f_Claims.length:Nat):Int))),(51,iA s31)]) (fun (s31,s32,s33) a35=>[Ob.var 26 [iA v0_p.f_Mod,AV.sl 3 (List.map c_api_Var v0_p.f_Locs),AV.sl 4 (List.map c_api_Thread v0_p.f_Threads),AV.sl 3 (List.map c_api_Claim v0_p.f_Claims)],Ob.mp none false (List.map c_mp_map_string_int y7.2.2),Ob.mp none false (List.map c_mp_map_string_map_string_int x30),Ob.var 52 [iA v0_p.f_Mod,AV.sl 3 (List.map c_api_Var v0_p.f_Locs),AV.sl 4 (List.map c_api_Thread v0_p.f_Threads),AV.sl 3 (List.map c_api_Claim v0_p.f_Claims),AV.mapp 1,AV.mapp 2,iA s32,iA s33]]) (fun (x47,x48) a46=>stOf 69 [(4,AV.ptr 3 0)]) (fun (x47,x48) a46=>[Ob.var 26 [iA v0_p.f_Mod,AV.sl 3 (List.map c_api_Var v0_p.f_Locs),AV.sl 4 (List.map c_api_Thread v0_p.f_Threads),AV.sl 3 (List.map c_api_Claim v0_p.f_Claims)],Ob.mp none false (List.map c_mp_map_string_int y7.2.2),Ob.mp none false (List.map c_mp_map_string_map_string_int x30),Ob.var 52 [iA v0_p.f_Mod,AV.sl 3 (List.map c_api_Var v0_p.f_Locs),AV.sl 4 (List.map c_api_Thread v0_p.f_Threads),AV.sl 3 (List.map c_api_Claim v0_p.f_Claims),AV.mapp 1,AV.mapp 2,iA x47,iA x48]]) (fun v=>(AV.tup [iA v.1,iA v.2],[])) (fun k s=>legal_Check_L1 n v0_p y7 x30 k s.1 s.2.1 s.2.2) (fun s=>rfl) o41 n (0,x28,x29) (fun _=>0) ho41 ?_ ?_
 intro k34 ss a35 K36 cont37 hK38 hcont39 h hr40
 obtain ⟨s31,s32,s33⟩:=ss
 replace h:legal_Check_L1 n v0_p y7 x30 (k34+1) s31 s32 s33=some o41:=h
 rw [legal_Check_L1] at h
 conv=>lhs;whnf
 revert h
 refine br ?_ ?_
 refine ix ?_;intro x43
 refine ca hc (fun _ h=>ok_legal_checker_claim h) ?_;intro y44
 exact fun h=>cq (hcont39 (IntKind.i64.wrap (s31+1),y44.1,y44.2) (fun _=>0) h)
 intro h;cases sj h
 exact kq (hr40 (fun _=>0))
 refine lrc ?_ ?_
 intro v e;subst e;cases sj h;rfl
 intro t a46 e;subst e
 obtain ⟨x47,x48⟩:=t
 dsimp only at h
 conv=>lhs;whnf
 revert h
 exact rz
 refine cr hc (fun y51 h=>(show CN n 18 [AV.ptr 0 0,bA false,iA (11),iA (0)] [Ob.var 52 [iA v0_p.f_Mod,AV.sl 3 (List.map c_api_Var v0_p.f_Locs),AV.sl 4 (List.map c_api_Thread v0_p.f_Threads),AV.sl 3 (List.map c_api_Claim v0_p.f_Claims),AV.mapp 1,AV.mapp 2,iA (0),iA (0)],Ob.mp none false ([]),Ob.mp none false ([])]=some (bA y51.1,[Ob.var 52 [iA v0_p.f_Mod,AV.sl 3 (List.map c_api_Var v0_p.f_Locs),AV.sl 4 (List.map c_api_Thread v0_p.f_Threads),AV.sl 3 (List.map c_api_Claim v0_p.f_Claims),AV.mapp 1,AV.mapp 2,iA y51.2.1,iA y51.2.2],Ob.mp none false ([]),Ob.mp none false ([])]) from ok_legal_checker_must (r:=y51) h)) ?_;intro y51
 refine cr hc (fun y53 h=>(show CN n 19 [AV.ptr 0 0] [Ob.var 52 [iA v0_p.f_Mod,AV.sl 3 (List.map c_api_Var v0_p.f_Locs),AV.sl 4 (List.map c_api_Thread v0_p.f_Threads),AV.sl 3 (List.map c_api_Claim v0_p.f_Claims),AV.mapp 1,AV.mapp 2,iA y51.2.1,iA y51.2.2],Ob.mp none false ([]),Ob.mp none false ([])]=some (AV.tup [],[Ob.var 52 [iA v0_p.f_Mod,AV.sl 3 (List.map c_api_Var v0_p.f_Locs),AV.sl 4 (List.map c_api_Thread v0_p.f_Threads),AV.sl 3 (List.map c_api_Claim v0_p.f_Claims),AV.mapp 1,AV.mapp 2,iA y53.1,iA y53.2.1],Ob.mp none false (List.map c_mp_map_string_int y53.2.2),Ob.mp none false ([])]) from ok_legal_checker_vars (r:=y53) h)) ?_;intro y53
 refine cr hc (fun y55 h=>(show CN n 18 [AV.ptr 0 0,bA (decide (0<((v0_p.f_Threads.length:Nat):Int))),iA (12),iA (0)] [Ob.var 52 [iA v0_p.f_Mod,AV.sl 3 (List.map c_api_Var v0_p.f_Locs),AV.sl 4 (List.map c_api_Thread v0_p.f_Threads),AV.sl 3 (List.map c_api_Claim v0_p.f_Claims),AV.mapp 1,AV.mapp 2,iA y53.1,iA y53.2.1],Ob.mp none false (List.map c_mp_map_string_int y53.2.2),Ob.mp none false ([])]=some (bA y55.1,[Ob.var 52 [iA v0_p.f_Mod,AV.sl 3 (List.map c_api_Var v0_p.f_Locs),AV.sl 4 (List.map c_api_Thread v0_p.f_Threads),AV.sl 3 (List.map c_api_Claim v0_p.f_Claims),AV.mapp 1,AV.mapp 2,iA y55.2.1,iA y55.2.2],Ob.mp none false (List.map c_mp_map_string_int y53.2.2),Ob.mp none false ([])]) from ok_legal_checker_must (r:=y55) h)) ?_;intro y55
 intro h;refine bind_some2 h ?_;clear h;intro o68 ho68 h
 refine lq (σ:=(Int×(List ((List UInt8)×(List ((List UInt8)×Int))))×Int×Int)) (τ:=(Int×Int×(List ((List UInt8)×(List ((List UInt8)×Int)))))) (ν:=(Int×Int)) 0 (fun (s57,s58,s59,s60) a62=>stOf 69 [(1,AV.ptr 0 0),(4,AV.ptr 3 0),(36,AV.sl 4 (List.map c_api_Thread v0_p.f_Threads)),(37,iA (((v0_p.f_Threads.length:Nat):Int))),(38,iA s57)]) (fun (s57,s58,s59,s60) a62=>[Ob.var 26 [iA v0_p.f_Mod,AV.sl 3 (List.map c_api_Var v0_p.f_Locs),AV.sl 4 (List.map c_api_Thread v0_p.f_Threads),AV.sl 3 (List.map c_api_Claim v0_p.f_Claims)],Ob.mp none false (List.map c_mp_map_string_int y53.2.2),Ob.mp none false (List.map c_mp_map_string_map_string_int s58),Ob.var 52 [iA v0_p.f_Mod,AV.sl 3 (List.map c_api_Var v0_p.f_Locs),AV.sl 4 (List.map c_api_Thread v0_p.f_Threads),AV.sl 3 (List.map c_api_Claim v0_p.f_Claims),AV.mapp 1,AV.mapp 2,iA s59,iA s60]]) (fun (x74,x75,x76) a73=>stOf 69 [(1,AV.ptr 0 0),(4,AV.ptr 3 0)]) (fun (x74,x75,x76) a73=>[Ob.var 26 [iA v0_p.f_Mod,AV.sl 3 (List.map c_api_Var v0_p.f_Locs),AV.sl 4 (List.map c_api_Thread v0_p.f_Threads),AV.sl 3 (List.map c_api_Claim v0_p.f_Claims)],Ob.mp none false (List.map c_mp_map_string_int y53.2.2),Ob.mp none false (List.map c_mp_map_string_map_string_int x76),Ob.var 52 [iA v0_p.f_Mod,AV.sl 3 (List.map c_api_Var v0_p.f_Locs),AV.sl 4 (List.map c_api_Thread v0_p.f_Threads),AV.sl 3 (List.map c_api_Claim v0_p.f_Claims),AV.mapp 1,AV.mapp 2,iA x74,iA x75]]) (fun v=>(AV.tup [iA v.1,iA v.2],[])) (fun k s=>legal_Check_L2 n v0_p y53 k s.1 s.2.1 s.2.2.1 s.2.2.2) (fun s=>rfl) o68 n (0,([]:(List ((List UInt8)×(List ((List UInt8)×Int))))),y55.2.1,y55.2.2) (fun _=>0) ho68 ?_ ?_
 intro k61 ss a62 K63 cont64 hK65 hcont66 h hr67
 obtain ⟨s57,s58,s59,s60⟩:=ss
 replace h:legal_Check_L2 n v0_p y53 (k61+1) s57 s58 s59 s60=some o68:=h
 rw [legal_Check_L2] at h
 conv=>lhs;whnf
 revert h
 refine br ?_ ?_
 refine ix ?_;intro x70
 refine ca hc (fun _ h=>ok_legal_checker_thread h) ?_;intro y71
 exact fun h=>cq (hcont66 (IntKind.i64.wrap (s57+1),y71.2.2,y71.1,y71.2.1) (fun _=>0) h)
 intro h;cases sj h
 exact kq (hr67 (fun _=>0))
 refine lrc ?_ ?_
 intro v e;subst e;cases sj h;rfl
 intro t a73 e;subst e
 obtain ⟨x74,x75,x76⟩:=t
 dsimp only at h
 conv=>lhs;whnf
 revert h
 intro h;refine bind_some2 h ?_;clear h;intro o87 ho87 h
 refine lq (σ:=(Int×Int×Int)) (τ:=(Int×Int)) (ν:=(Int×Int)) 2 (fun (s77,s78,s79) a81=>stOf 69 [(4,AV.ptr 3 0),(49,AV.sl 3 (List.map c_api_Claim v0_p.f_Claims)),(50,iA (((v0_p.f_Claims.length:Nat):Int))),(51,iA s77)]) (fun (s77,s78,s79) a81=>[Ob.var 26 [iA v0_p.f_Mod,AV.sl 3 (List.map c_api_Var v0_p.f_Locs),AV.sl 4 (List.map c_api_Thread v0_p.f_Threads),AV.sl 3 (List.map c_api_Claim v0_p.f_Claims)],Ob.mp none false (List.map c_mp_map_string_int y53.2.2),Ob.mp none false (List.map c_mp_map_string_map_string_int x76),Ob.var 52 [iA v0_p.f_Mod,AV.sl 3 (List.map c_api_Var v0_p.f_Locs),AV.sl 4 (List.map c_api_Thread v0_p.f_Threads),AV.sl 3 (List.map c_api_Claim v0_p.f_Claims),AV.mapp 1,AV.mapp 2,iA s78,iA s79]]) (fun (x93,x94) a92=>stOf 69 [(4,AV.ptr 3 0)]) (fun (x93,x94) a92=>[Ob.var 26 [iA v0_p.f_Mod,AV.sl 3 (List.map c_api_Var v0_p.f_Locs),AV.sl 4 (List.map c_api_Thread v0_p.f_Threads),AV.sl 3 (List.map c_api_Claim v0_p.f_Claims)],Ob.mp none false (List.map c_mp_map_string_int y53.2.2),Ob.mp none false (List.map c_mp_map_string_map_string_int x76),Ob.var 52 [iA v0_p.f_Mod,AV.sl 3 (List.map c_api_Var v0_p.f_Locs),AV.sl 4 (List.map c_api_Thread v0_p.f_Threads),AV.sl 3 (List.map c_api_Claim v0_p.f_Claims),AV.mapp 1,AV.mapp 2,iA x93,iA x94]]) (fun v=>(AV.tup [iA v.1,iA v.2],[])) (fun k s=>legal_Check_L3 n v0_p y53 x76 k s.1 s.2.1 s.2.2) (fun s=>rfl) o87 n (0,x74,x75) (fun _=>0) ho87 ?_ ?_
 intro k80 ss a81 K82 cont83 hK84 hcont85 h hr86
 obtain ⟨s77,s78,s79⟩:=ss
 replace h:legal_Check_L3 n v0_p y53 x76 (k80+1) s77 s78 s79=some o87:=h
 rw [legal_Check_L3] at h
 conv=>lhs;whnf
 revert h
 refine br ?_ ?_
 refine ix ?_;intro x89
 refine ca hc (fun _ h=>ok_legal_checker_claim h) ?_;intro y90
 exact fun h=>cq (hcont85 (IntKind.i64.wrap (s77+1),y90.1,y90.2) (fun _=>0) h)
 intro h;cases sj h
 exact kq (hr86 (fun _=>0))
 refine lrc ?_ ?_
 intro v e;subst e;cases sj h;rfl
 intro t a92 e;subst e
 obtain ⟨x93,x94⟩:=t
 dsimp only at h
 conv=>lhs;whnf
 revert h
 exact rz
 exact rz
theorem ok_legal_Index {n:Nat} ⦃v0_l:(List (List UInt8))⦄ ⦃v1_name:(List UInt8)⦄ ⦃r:Int⦄:m_legal_Index n v0_l v1_name=some r→CN n 15 [AV.sl 1 (List.map encS v0_l),sA v1_name] []=some (iA r,[]):=by
 intro h;rcases n with _|n;cases h
 rw [m_legal_Index] at h
 refine callN_eq' Tryz.func15 (by rfl) rfl rfl (Nat.le_of_ble_eq_true rfl) ?_
 intro call hc;conv=>lhs;whnf
 revert h
 intro h;refine bind_some2 h ?_;clear h;intro o9 ho9 h
 refine lq (σ:=Int) (τ:=Unit) (ν:=Int) 0 (fun s1 a3=>stOf 19 [(1,sA v1_name),(7,AV.sl 1 (List.map encS v0_l)),(8,iA (((v0_l.length:Nat):Int))),(9,iA s1)]) (fun s1 a3=>[]) (fun _ a13=>stOf 19 []) (fun _ a13=>[]) (fun v=>(iA v,[])) (fun k s=>legal_Index_L0 n v0_l v1_name k s) (fun s=>rfl) o9 n 0 (fun _=>0) ho9 ?_ ?_
 intro k2 s1 a3 K4 cont5 hK6 hcont7 h hr8
 replace h:legal_Index_L0 n v0_l v1_name (k2+1) s1=some o9:=h
 rw [legal_Index_L0] at h
 conv=>lhs;whnf
 revert h
 refine br ?_ ?_
 refine ix ?_;intro x11
 refine br ?_ ?_
 intro h;cases sj h
 refine (hK6 _ _).trans ?_
 refine Eq.trans ?_ (Eq.symm (show _=some _ from hr8))
 conv=>lhs;whnf
 exact rq
 exact fun h=>cq (hcont7 (IntKind.i64.wrap (s1+1)) (fun _=>0) h)
 intro h;cases sj h
 exact kq (hr8 (fun _=>0))
 refine lrc ?_ ?_
 intro v e;subst e;cases sj h;rfl
 intro t a13 e;subst e
 dsimp only at h
 conv=>lhs;whnf
 revert h
 exact rz
theorem ok_legal_Locs {n:Nat} ⦃v0_p:S_api_Prog⦄ ⦃r:(List (List UInt8))⦄:m_legal_Locs n v0_p=some r→CN n 16 [AV.agg [iA v0_p.f_Mod,AV.sl 3 (List.map c_api_Var v0_p.f_Locs),AV.sl 4 (List.map c_api_Thread v0_p.f_Threads),AV.sl 3 (List.map c_api_Claim v0_p.f_Claims)]] []=some (AV.sl 1 (List.map encS r),[]):=by
 intro h;rcases n with _|n;cases h
 rw [m_legal_Locs] at h
 refine callN_eq' Tryz.func16 (by rfl) rfl rfl (Nat.le_of_ble_eq_true rfl) ?_
 intro call hc;conv=>lhs;whnf
 revert h
 intro h;refine bind_some2 h ?_;clear h;intro o10 ho10 h
 refine lq (σ:=(Int×(List (List UInt8)))) (τ:=(List (List UInt8))) (ν:=(List (List UInt8))) 0 (fun (s1,s2) a4=>stOf 20 [(3,AV.row 1 (List.length s2)),(7,AV.sl 3 (List.map c_api_Var v0_p.f_Locs)),(8,iA (((v0_p.f_Locs.length:Nat):Int))),(9,iA s1)]) (fun (s1,s2) a4=>[Ob.var 26 [iA v0_p.f_Mod,AV.sl 3 (List.map c_api_Var v0_p.f_Locs),AV.sl 4 (List.map c_api_Thread v0_p.f_Threads),AV.sl 3 (List.map c_api_Claim v0_p.f_Claims)],Ob.row 9 1 (List.map encS s2)]) (fun x16 a15=>stOf 20 [(3,AV.row 1 (List.length x16))]) (fun x16 a15=>[Ob.var 26 [iA v0_p.f_Mod,AV.sl 3 (List.map c_api_Var v0_p.f_Locs),AV.sl 4 (List.map c_api_Thread v0_p.f_Threads),AV.sl 3 (List.map c_api_Claim v0_p.f_Claims)],Ob.row 9 1 (List.map encS x16)]) (fun v=>(AV.sl 1 (List.map encS v),[])) (fun k s=>legal_Locs_L0 n v0_p k s.1 s.2) (fun s=>rfl) o10 n (0,([]:List (List UInt8))) (fun _=>0) ho10 ?_ ?_
 intro k3 ss a4 K5 cont6 hK7 hcont8 h hr9
 obtain ⟨s1,s2⟩:=ss
 replace h:legal_Locs_L0 n v0_p (k3+1) s1 s2=some o10:=h
 rw [legal_Locs_L0] at h
 conv=>lhs;whnf
 revert h
 refine br ?_ ?_
 refine ix ?_;intro x12
 refine ar (ap encS (List.map encS s2) s2 ([[sA x12.f_Name]]) ([x12.f_Name]:List (List UInt8))) ?_
 exact fun h=>cq (hcont8 (IntKind.i64.wrap (s1+1),(s2++([x12.f_Name]:List (List UInt8)))) (fun _=>0) h)
 intro h;cases sj h
 exact kq (hr9 (fun _=>0))
 refine lrc ?_ ?_
 intro v e;subst e;cases sj h;rfl
 intro x16 a15 e;subst e
 dsimp only at h
 conv=>lhs;whnf
 revert h
 intro h;obtain rfl:=sj h
 try simp only [ls]
 exact fq (y:=some (AV.sl 1 (List.take (List.length x16) (List.map encS x16)),[]))
end Go.Proofs.YtpnhafdimkmbbaaGreat
end
section
namespace Go.Proofs.YtpnhafdimkmbbaaGreat
set_option linter.unusedVariables false
set_option linter.unusedSimpArgs false
set_option maxRecDepth 100000
set_option maxHeartbeats 4000000
theorem ok_ref01_gap {n:Nat} ⦃v0_s:(List UInt8)⦄ ⦃v1_at:Int⦄ ⦃r:Int⦄:m_ref01_gap n v0_s v1_at=some r→CN n 74 [sA v0_s,iA v1_at] []=some (iA r,[]):=by
 intro h;rcases n with _|n;cases h
 rw [m_ref01_gap] at h
 refine callN_eq' Tryz.func74 (by rfl) rfl rfl (Nat.le_of_ble_eq_true rfl) ?_
 intro call hc;conv=>lhs;whnf
 revert h
 intro h;refine bind_some2 h ?_;clear h;intro o9 ho9 h
 refine lq (σ:=Int) (τ:=Int) (ν:=Int) 0 (fun s1 a3=>stOf 53 [(0,sA v0_s),(1,iA s1)]) (fun s1 a3=>[]) (fun x37 a36=>stOf 53 [(1,iA x37)]) (fun x37 a36=>[]) (fun v=>(iA v,[])) (fun k s=>ref01_gap_L0 n v0_s k s) (fun s=>rfl) o9 n v1_at (fun _=>0) ho9 ?_ ?_
 intro k2 s1 a3 K4 cont5 hK6 hcont7 h hr8
 replace h:ref01_gap_L0 n v0_s (k2+1) s1=some o9:=h
 rw [ref01_gap_L0] at h
 conv=>lhs;whnf
 revert h
 refine br ?_ ?_
 refine ixs ?_;intro x11
 refine br ?_ ?_
 exact fun h=>cq (hcont7 (IntKind.i64.wrap (s1+1)) (fun _=>0) h)
 refine ixs ?_;intro x13
 refine br ?_ ?_
 exact fun h=>cq (hcont7 (IntKind.i64.wrap (s1+1)) (fun _=>0) h)
 refine ixs ?_;intro x15
 refine br ?_ ?_
 exact fun h=>cq (hcont7 (IntKind.i64.wrap (s1+1)) (fun _=>0) h)
 refine ixs ?_;intro x17
 refine br ?_ ?_
 exact fun h=>cq (hcont7 (IntKind.i64.wrap (s1+1)) (fun _=>0) h)
 refine ixs ?_;intro x19
 refine br ?_ ?_
 intro h;refine bind_some2 h ?_;clear h;intro o29 ho29 h
 refine lq (σ:=Int) (τ:=Int) (ν:=Int) 3 (fun s21 a23=>stOf 53 [(0,sA v0_s),(1,iA s21)]) (fun s21 a23=>[]) (fun x34 a33=>stOf 53 [(0,sA v0_s),(1,iA x34)]) (fun x34 a33=>[]) (fun v=>(iA v,[])) (fun k s=>ref01_gap_L1 n v0_s k s) (fun s=>rfl) o29 n s1 (fun _=>0) ho29 ?_ ?_
 intro k22 s21 a23 K24 cont25 hK26 hcont27 h hr28
 replace h:ref01_gap_L1 n v0_s (k22+1) s21=some o29:=h
 rw [ref01_gap_L1] at h
 conv=>lhs;whnf
 revert h
 refine br ?_ ?_
 refine ixs ?_;intro x31
 refine br ?_ ?_
 exact fun h=>cq (hcont27 (IntKind.i64.wrap (s21+1)) (fun _=>0) h)
 intro h;cases sj h
 exact kq (hr28 (fun _=>0))
 intro h;cases sj h
 exact kq (hr28 (fun _=>0))
 refine lrc ?_ ?_
 intro v e;subst e;cases sj h;exact hr8
 intro x34 a33 e;subst e
 dsimp only at h
 conv=>lhs;whnf
 revert h
 exact fun h=>cq (hcont7 x34 (fun _=>0) h)
 intro h;cases sj h
 refine (hK6 _ _).trans ?_
 refine Eq.trans ?_ (Eq.symm (show _=some _ from hr8))
 conv=>lhs;whnf
 exact rq
 intro h;cases sj h
 exact kq (hr8 (fun _=>0))
 refine lrc ?_ ?_
 intro v e;subst e;cases sj h;rfl
 intro x37 a36 e;subst e
 dsimp only at h
 conv=>lhs;whnf
 revert h
 exact rz
theorem ok_ref01_digit {n:Nat} ⦃v0_c:Int⦄ ⦃r:Bool⦄:m_ref01_digit n v0_c=some r→CN n 57 [AV.int .u8 v0_c] []=some (bA r,[]):=by
 intro h;rcases n with _|n;cases h
 rw [m_ref01_digit] at h
 refine callN_eq' Tryz.func57 (by rfl) rfl rfl (Nat.le_of_ble_eq_true rfl) ?_
 intro call hc;conv=>lhs;whnf
 revert h
 refine br ?_ ?_
 exact rz
 exact rz
theorem ok_ref01_letter {n:Nat} ⦃v0_c:Int⦄ ⦃r:Bool⦄:m_ref01_letter n v0_c=some r→CN n 55 [AV.int .u8 v0_c] []=some (bA r,[]):=by
 intro h;rcases n with _|n;cases h
 rw [m_ref01_letter] at h
 refine callN_eq' Tryz.func55 (by rfl) rfl rfl (Nat.le_of_ble_eq_true rfl) ?_
 intro call hc;conv=>lhs;whnf
 revert h
 refine br ?_ ?_
 refine br ?_ ?_
 exact rz
 refine br ?_ ?_
 refine br ?_ ?_
 exact rz
 exact rz
 exact rz
 refine br ?_ ?_
 refine br ?_ ?_
 exact rz
 exact rz
 exact rz
theorem ok_ref01_signs {n:Nat} ⦃r:(List (List UInt8))⦄:m_ref01_signs n=some r→CN n 97 [] []=some (AV.sl 1 (List.map encS r),[]):=by
 intro h;rcases n with _|n;cases h
 rw [m_ref01_signs] at h
 refine callN_eq' Tryz.func97 (by rfl) rfl rfl (Nat.le_of_ble_eq_true rfl) ?_
 intro call hc;conv=>lhs;whnf
 revert h
 exact rz
theorem ok_ref01_one {n:Nat} ⦃v0_s:(List UInt8)⦄ ⦃v1_at:Int⦄ ⦃r:(S_api_Token×Int)⦄:m_ref01_one n v0_s v1_at=some r→CN n 75 [sA v0_s,iA v1_at] []=some (AV.tup [AV.agg [iA r.1.f_Kind,sA r.1.f_Text,iA r.1.f_N,iA r.1.f_At],iA r.2],[]):=by
 intro h;rcases n with _|n;cases h
 rw [m_ref01_one] at h
 refine callN_eq' Tryz.func75 (by rfl) rfl rfl (Nat.le_of_ble_eq_true rfl) ?_
 intro call hc;conv=>lhs;whnf
 revert h
 intro h;refine bind_some2 h ?_;clear h;intro o9 ho9 h
 refine lq (σ:=Int) (τ:=Int) (ν:=(S_api_Token×Int)) 0 (fun s1 a3=>stOf 119 [(0,sA v0_s),(1,iA v1_at),(4,AV.ptr 0 0),(6,iA s1)]) (fun s1 a3=>[Ob.var 81 [iA (0),sA (([]:List UInt8)),iA (0),iA (0)]]) (fun x21 a20=>stOf 119 [(0,sA v0_s),(1,iA v1_at),(4,AV.ptr 0 0),(6,iA x21)]) (fun x21 a20=>[Ob.var 81 [iA (0),sA (([]:List UInt8)),iA (0),iA (0)]]) (fun v=>(AV.tup [AV.agg [iA v.1.f_Kind,sA v.1.f_Text,iA v.1.f_N,iA v.1.f_At],iA v.2],[])) (fun k s=>ref01_one_L0 n v0_s v1_at k s) (fun s=>rfl) o9 n v1_at (fun _=>0) ho9 ?_ ?_
 intro k2 s1 a3 K4 cont5 hK6 hcont7 h hr8
 replace h:ref01_one_L0 n v0_s v1_at (k2+1) s1=some o9:=h
 rw [ref01_one_L0] at h
 conv=>lhs;whnf
 revert h
 refine br ?_ ?_
 refine ixs ?_;intro x11
 refine ca hc (fun _ h=>ok_ref01_letter h) ?_;intro y12
 refine br ?_ ?_
 exact fun h=>cq (hcont7 (IntKind.i64.wrap (s1+1)) (fun _=>0) h)
 refine br ?_ ?_
 refine ixs ?_;intro x16
 refine ca hc (fun _ h=>ok_ref01_digit h) ?_;intro y17
 refine br ?_ ?_
 exact fun h=>cq (hcont7 (IntKind.i64.wrap (s1+1)) (fun _=>0) h)
 intro h;cases sj h
 exact kq (hr8 (fun _=>0))
 intro h;cases sj h
 exact kq (hr8 (fun _=>0))
 intro h;cases sj h
 exact kq (hr8 (fun _=>0))
 refine lrc ?_ ?_
 intro v e;subst e;cases sj h;rfl
 intro x21 a20 e;subst e
 dsimp only at h
 conv=>lhs;whnf
 revert h
 refine br ?_ ?_
 refine br ?_ ?_
 exact rz
 refine cp ?_
 exact rz
 intro h;refine bind_some2 h ?_;clear h;intro o34 ho34 h
 refine lq (σ:=(Int×Int)) (τ:=(Int×Int)) (ν:=(S_api_Token×Int)) 2 (fun (s25,s26) a28=>stOf 119 [(0,sA v0_s),(1,iA v1_at),(4,AV.ptr 0 0),(6,iA s25),(7,iA s26)]) (fun (s25,s26) a28=>[Ob.var 81 [iA (0),sA (([]:List UInt8)),iA (0),iA (0)]]) (fun (x42,x43) a41=>stOf 119 [(0,sA v0_s),(1,iA v1_at),(4,AV.ptr 0 0),(6,iA x42),(7,iA x43)]) (fun (x42,x43) a41=>[Ob.var 81 [iA (0),sA (([]:List UInt8)),iA (0),iA (0)]]) (fun v=>(AV.tup [AV.agg [iA v.1.f_Kind,sA v.1.f_Text,iA v.1.f_N,iA v.1.f_At],iA v.2],[])) (fun k s=>ref01_one_L1 n v0_s k s.1 s.2) (fun s=>rfl) o34 n (x21,0) (fun _=>0) ho34 ?_ ?_
 intro k27 ss a28 K29 cont30 hK31 hcont32 h hr33
 obtain ⟨s25,s26⟩:=ss
 replace h:ref01_one_L1 n v0_s (k27+1) s25 s26=some o34:=h
 rw [ref01_one_L1] at h
 conv=>lhs;whnf
 revert h
 refine br ?_ ?_
 refine ixs ?_;intro x36
 refine ca hc (fun _ h=>ok_ref01_digit h) ?_;intro y37
 refine br ?_ ?_
 refine ixs ?_;intro x40
 exact fun h=>cq (hcont32 (IntKind.i64.wrap (s25+1),(if 10000<(IntKind.i64.wrap ((IntKind.i64.wrap (10 * s26))+(IntKind.i64.wrap (IntKind.u8.wrap ((x40.toNat:Int) - 48))))) then 10000 else (IntKind.i64.wrap ((IntKind.i64.wrap (10 * s26))+(IntKind.i64.wrap (IntKind.u8.wrap ((x40.toNat:Int) - 48))))))) (fun _=>0) h)
 intro h;cases sj h
 exact kq (hr33 (fun _=>0))
 intro h;cases sj h
 exact kq (hr33 (fun _=>0))
 refine lrc ?_ ?_
 intro v e;subst e;cases sj h;rfl
 intro t a41 e;subst e
 obtain ⟨x42,x43⟩:=t
 dsimp only at h
 conv=>lhs;whnf
 revert h
 refine br ?_ ?_
 refine br ?_ ?_
 exact rz
 refine cp ?_
 exact rz
 refine ca hc (fun _ h=>ok_ref01_signs h) ?_;intro y47
 intro h;refine bind_some2 h ?_;clear h;intro o57 ho57 h
 refine lq (σ:=Int) (τ:=Unit) (ν:=(S_api_Token×Int)) 4 (fun s49 a51=>stOf 119 [(0,sA v0_s),(1,iA v1_at),(4,AV.ptr 0 0),(8,AV.sl 1 (List.map encS y47)),(9,iA s49)]) (fun s49 a51=>[Ob.var 81 [iA (0),sA (([]:List UInt8)),iA (0),iA (0)]]) (fun _ a65=>stOf 119 [(4,AV.ptr 0 0)]) (fun _ a65=>[Ob.var 81 [iA (0),sA (([]:List UInt8)),iA (0),iA (0)]]) (fun v=>(AV.tup [AV.agg [iA v.1.f_Kind,sA v.1.f_Text,iA v.1.f_N,iA v.1.f_At],iA v.2],[])) (fun k s=>ref01_one_L2 n v0_s v1_at y47 k s) (fun s=>rfl) o57 n 0 (fun _=>0) ho57 ?_ ?_
 intro k50 s49 a51 K52 cont53 hK54 hcont55 h hr56
 replace h:ref01_one_L2 n v0_s v1_at y47 (k50+1) s49=some o57:=h
 rw [ref01_one_L2] at h
 conv=>lhs;whnf
 revert h
 refine br ?_ ?_
 refine ix ?_;intro x59
 refine br ?_ ?_
 refine cp ?_
 refine ix ?_;intro x62
 refine br ?_ ?_
 refine ix ?_;intro x64
 intro h;cases sj h
 refine (hK54 _ _).trans ?_
 refine Eq.trans ?_ (Eq.symm (show _=some _ from hr56))
 conv=>lhs;whnf
 exact rq
 exact fun h=>cq (hcont55 (IntKind.i64.wrap (s49+1)) (fun _=>0) h)
 exact fun h=>cq (hcont55 (IntKind.i64.wrap (s49+1)) (fun _=>0) h)
 intro h;cases sj h
 exact kq (hr56 (fun _=>0))
 refine lrc ?_ ?_
 intro v e;subst e;cases sj h;rfl
 intro t a65 e;subst e
 dsimp only at h
 conv=>lhs;whnf
 revert h
 exact rz
theorem ok_ref01_Scan {n:Nat} ⦃v0_s:(List UInt8)⦄ ⦃r:((List S_api_Token)×Int×Int)⦄:m_ref01_Scan n v0_s=some r→CN n 46 [sA v0_s] []=some (AV.tup [AV.sl 4 (List.map c_api_Token r.1),iA r.2.1,iA r.2.2],[]):=by
 intro h;rcases n with _|n;cases h
 rw [m_ref01_Scan] at h
 refine callN_eq' Tryz.func46 (by rfl) rfl rfl (Nat.le_of_ble_eq_true rfl) ?_
 intro call hc;conv=>lhs;whnf
 revert h
 refine br ?_ ?_
 exact rz
 refine ca hc (fun _ h=>ok_ref01_gap h) ?_;intro y2
 intro h;refine bind_some2 h ?_;clear h;intro o13 ho13 h
 refine lq (σ:=(Int×(List S_api_Token))) (τ:=(List S_api_Token)) (ν:=((List S_api_Token)×Int×Int)) 0 (fun (s4,s5) a7=>stOf 40 [(0,sA v0_s),(5,AV.row 0 (List.length s5)),(6,iA s4)]) (fun (s4,s5) a7=>[Ob.row 81 4 (List.map c_api_Token s5)]) (fun x23 a22=>stOf 40 [(5,AV.row 0 (List.length x23))]) (fun x23 a22=>[Ob.row 81 4 (List.map c_api_Token x23)]) (fun v=>(AV.tup [AV.sl 4 (List.map c_api_Token v.1),iA v.2.1,iA v.2.2],[])) (fun k s=>ref01_Scan_L0 n v0_s k s.1 s.2) (fun s=>rfl) o13 n (y2,([]:List S_api_Token)) (fun _=>0) ho13 ?_ ?_
 intro k6 ss a7 K8 cont9 hK10 hcont11 h hr12
 obtain ⟨s4,s5⟩:=ss
 replace h:ref01_Scan_L0 n v0_s (k6+1) s4 s5=some o13:=h
 rw [ref01_Scan_L0] at h
 conv=>lhs;whnf
 revert h
 refine br ?_ ?_
 refine ca hc (fun _ h=>ok_ref01_one h) ?_;intro y15
 refine br ?_ ?_
 intro h;cases sj h
 refine (hK10 _ _).trans ?_
 refine Eq.trans ?_ (Eq.symm (show _=some _ from hr12))
 conv=>lhs;whnf
 exact rq
 refine ar (ap c_api_Token (List.map c_api_Token s5) s5 ([[iA y15.1.f_Kind,sA y15.1.f_Text,iA y15.1.f_N,iA y15.1.f_At]]) ([y15.1]:List S_api_Token)) ?_
 refine cr hc (fun _ h=>ok_ref01_gap h) ?_;intro y20
 exact fun h=>cq (hcont11 (y20,(s5++([y15.1]:List S_api_Token))) (fun _=>0) h)
 intro h;cases sj h
 exact kq (hr12 (fun _=>0))
 refine lrc ?_ ?_
 intro v e;subst e;cases sj h;rfl
 intro x23 a22 e;subst e
 dsimp only at h
 conv=>lhs;whnf
 revert h
 intro h;cases sj h
 try simp only [ls]
 exact fq (y:=some (AV.tup [AV.sl 4 (List.take (List.length x23) (List.map c_api_Token x23)),iA (0),iA (0)],[]))
theorem ok_ref01_words {n:Nat} ⦃r:(List (List UInt8))⦄:m_ref01_words n=some r→CN n 83 [] []=some (AV.sl 1 (List.map encS r),[]):=by
 intro h;rcases n with _|n;cases h
 rw [m_ref01_words] at h
 refine callN_eq' Tryz.func83 (by rfl) rfl rfl (Nat.le_of_ble_eq_true rfl) ?_
 intro call hc;conv=>lhs;whnf
 revert h
 exact rz
theorem ok_ref01_Keyword {n:Nat} ⦃v0_s:(List UInt8)⦄ ⦃r:Bool⦄:m_ref01_Keyword n v0_s=some r→CN n 56 [sA v0_s] []=some (bA r,[]):=by
 intro h;rcases n with _|n;cases h
 rw [m_ref01_Keyword] at h
 refine callN_eq' Tryz.func56 (by rfl) rfl rfl (Nat.le_of_ble_eq_true rfl) ?_
 intro call hc;conv=>lhs;whnf
 revert h
 refine ca hc (fun _ h=>ok_ref01_words h) ?_;intro y1
 intro h;refine bind_some2 h ?_;clear h;intro o11 ho11 h
 refine lq (σ:=Int) (τ:=Unit) (ν:=Bool) 0 (fun s3 a5=>stOf 18 [(0,sA v0_s),(3,AV.sl 1 (List.map encS y1)),(4,iA s3)]) (fun s3 a5=>[]) (fun _ a15=>stOf 18 []) (fun _ a15=>[]) (fun v=>(bA v,[])) (fun k s=>ref01_Keyword_L0 n v0_s y1 k s) (fun s=>rfl) o11 n 0 (fun _=>0) ho11 ?_ ?_
 intro k4 s3 a5 K6 cont7 hK8 hcont9 h hr10
 replace h:ref01_Keyword_L0 n v0_s y1 (k4+1) s3=some o11:=h
 rw [ref01_Keyword_L0] at h
 conv=>lhs;whnf
 revert h
 refine br ?_ ?_
 refine ix ?_;intro x13
 refine br ?_ ?_
 intro h;cases sj h
 refine (hK8 _ _).trans ?_
 refine Eq.trans ?_ (Eq.symm (show _=some _ from hr10))
 conv=>lhs;whnf
 exact rq
 exact fun h=>cq (hcont9 (IntKind.i64.wrap (s3+1)) (fun _=>0) h)
 intro h;cases sj h
 exact kq (hr10 (fun _=>0))
 refine lrc ?_ ?_
 intro v e;subst e;cases sj h;rfl
 intro t a15 e;subst e
 dsimp only at h
 conv=>lhs;whnf
 revert h
 exact rz
theorem ok_ref01_Name {n:Nat} ⦃v0_s:(List UInt8)⦄ ⦃r:Bool⦄:m_ref01_Name n v0_s=some r→CN n 28 [sA v0_s] []=some (bA r,[]):=by
 intro h;rcases n with _|n;cases h
 rw [m_ref01_Name] at h
 refine callN_eq' Tryz.func28 (by rfl) rfl rfl (Nat.le_of_ble_eq_true rfl) ?_
 intro call hc;conv=>lhs;whnf
 revert h
 refine br ?_ ?_
 exact rz
 refine br ?_ ?_
 exact rz
 refine ixs ?_;intro x3
 refine ca hc (fun _ h=>ok_ref01_letter h) ?_;intro y4
 refine br ?_ ?_
 refine ca hc (fun _ h=>ok_ref01_Keyword h) ?_;intro y7
 refine br ?_ ?_
 exact rz
 intro h;refine bind_some2 h ?_;clear h;intro o18 ho18 h
 refine lq (σ:=Int) (τ:=Unit) (ν:=Bool) 0 (fun s10 a12=>stOf 40 [(0,sA v0_s),(3,iA s10)]) (fun s10 a12=>[]) (fun _ a28=>stOf 40 []) (fun _ a28=>[]) (fun v=>(bA v,[])) (fun k s=>ref01_Name_L0 n v0_s k s) (fun s=>rfl) o18 n 0 (fun _=>0) ho18 ?_ ?_
 intro k11 s10 a12 K13 cont14 hK15 hcont16 h hr17
 replace h:ref01_Name_L0 n v0_s (k11+1) s10=some o18:=h
 rw [ref01_Name_L0] at h
 conv=>lhs;whnf
 revert h
 refine br ?_ ?_
 refine ixs ?_;intro x20
 refine ca hc (fun _ h=>ok_ref01_letter h) ?_;intro y21
 refine br ?_ ?_
 exact fun h=>cq (hcont16 (IntKind.i64.wrap (s10+1)) (fun _=>0) h)
 refine ixs ?_;intro x24
 refine ca hc (fun _ h=>ok_ref01_digit h) ?_;intro y25
 refine br ?_ ?_
 exact fun h=>cq (hcont16 (IntKind.i64.wrap (s10+1)) (fun _=>0) h)
 intro h;cases sj h
 refine (hK15 _ _).trans ?_
 refine Eq.trans ?_ (Eq.symm (show _=some _ from hr17))
 conv=>lhs;whnf
 exact rq
 intro h;cases sj h
 exact kq (hr17 (fun _=>0))
 refine lrc ?_ ?_
 intro v e;subst e;cases sj h;rfl
 intro t a28 e;subst e
 dsimp only at h
 conv=>lhs;whnf
 revert h
 exact rz
 exact rz
end Go.Proofs.YtpnhafdimkmbbaaGreat
end
section
namespace Go.Proofs.YtpnhafdimkmbbaaGreat
set_option linter.unusedVariables false
set_option linter.unusedSimpArgs false
set_option maxRecDepth 100000
set_option maxHeartbeats 4000000
theorem ok_ref02_kids {n:Nat} ⦃v0_op:Int⦄ ⦃r:Int⦄:m_ref02_kids n v0_op=some r→CN n 101 [iA v0_op] []=some (iA r,[]):=by
 intro h;rcases n with _|n;cases h
 rw [m_ref02_kids] at h
 refine callN_eq' Tryz.func101 (by rfl) rfl rfl (Nat.le_of_ble_eq_true rfl) ?_
 intro call hc;conv=>lhs;whnf
 revert h
 refine br ?_ ?_
 refine br ?_ ?_
 exact rz
 refine br ?_ ?_
 exact rz
 refine br ?_ ?_
 refine br ?_ ?_
 exact rz
 exact rz
 exact rz
 refine br ?_ ?_
 exact rz
 refine br ?_ ?_
 refine br ?_ ?_
 exact rz
 exact rz
 exact rz
theorem ok_ref02_End {n:Nat} ⦃v0_l:(List S_api_Node)⦄ ⦃v1_i:Int⦄ ⦃r:Int⦄:m_ref02_End n v0_l v1_i=some r→CN n 89 [AV.sl 5 (List.map c_api_Node v0_l),iA v1_i] []=some (iA r,[]):=by
 intro h;rcases n with _|n;cases h
 rw [m_ref02_End] at h
 refine callN_eq' Tryz.func89 (by rfl) rfl rfl (Nat.le_of_ble_eq_true rfl) ?_
 intro call hc;conv=>lhs;whnf
 revert h
 refine br ?_ ?_
 exact rz
 intro h;refine bind_some2 h ?_;clear h;intro o11 ho11 h
 refine lq (σ:=(Int×Int)) (τ:=Unit) (ν:=Int) 0 (fun (s2,s3) a5=>stOf 33 [(0,AV.sl 5 (List.map c_api_Node v0_l)),(5,iA s2),(6,iA s3)]) (fun (s2,s3) a5=>[]) (fun _ a18=>stOf 33 []) (fun _ a18=>[]) (fun v=>(iA v,[])) (fun k s=>ref02_End_L0 n v0_l k s.1 s.2) (fun s=>rfl) o11 n (1,v1_i) (fun _=>0) ho11 ?_ ?_
 intro k4 ss a5 K6 cont7 hK8 hcont9 h hr10
 obtain ⟨s2,s3⟩:=ss
 replace h:ref02_End_L0 n v0_l (k4+1) s2 s3=some o11:=h
 rw [ref02_End_L0] at h
 conv=>lhs;whnf
 revert h
 refine br ?_ ?_
 refine ix ?_;intro x13
 refine ca hc (fun _ h=>ok_ref02_kids h) ?_;intro y14
 refine br ?_ ?_
 intro h;cases sj h
 refine (hK8 _ _).trans ?_
 refine Eq.trans ?_ (Eq.symm (show _=some _ from hr10))
 conv=>lhs;whnf
 exact rq
 refine br ?_ ?_
 intro h;cases sj h
 refine (hK8 _ _).trans ?_
 refine Eq.trans ?_ (Eq.symm (show _=some _ from hr10))
 conv=>lhs;whnf
 exact rq
 exact fun h=>cq (hcont9 (IntKind.i64.wrap ((IntKind.i64.wrap (s2 - 1))+y14),IntKind.i64.wrap (s3+1)) (fun _=>0) h)
 intro h;cases sj h
 exact kq (hr10 (fun _=>0))
 refine lrc ?_ ?_
 intro v e;subst e;cases sj h;rfl
 intro t a18 e;subst e
 dsimp only at h
 conv=>lhs;whnf
 revert h
 exact rz
def OK_ref02_deep (n:Nat):Prop:=∀ ⦃v0_l:(List S_api_Node)⦄ ⦃v1_i:Int⦄ ⦃r:Int⦄,m_ref02_deep n v0_l v1_i=some r→CN n 91 [AV.sl 5 (List.map c_api_Node v0_l),iA v1_i] []=some (iA r,[])
def IH_ref02_deep (n : Nat) : Prop := OK_ref02_deep n
theorem st_ref02_deep (n:Nat) (ih:IH_ref02_deep n):OK_ref02_deep (n+1):=by
 intro v0_l v1_i r h
 rw [m_ref02_deep] at h
 refine callN_eq' Tryz.func91 (by rfl) rfl rfl (Nat.le_of_ble_eq_true rfl) ?_
 intro call hc;conv=>lhs;whnf
 revert h
 intro h;refine bind_some2 h ?_;clear h;intro o11 ho11 h
 refine lq (σ:=(Int×Int×Int)) (τ:=Int) (ν:=Int) 0 (fun (s1,s2,s3) a5=>stOf 30 [(0,AV.sl 5 (List.map c_api_Node v0_l)),(1,iA v1_i),(5,iA s1),(6,iA s2),(7,iA s3)]) (fun (s1,s2,s3) a5=>[]) (fun x21 a20=>stOf 30 [(5,iA x21)]) (fun x21 a20=>[]) (fun v=>(iA v,[])) (fun k s=>ref02_deep_L0 n (m_ref02_deep n) v0_l v1_i k s.1 s.2.1 s.2.2) (fun s=>rfl) o11 n (0,IntKind.i64.wrap (v1_i+1),0) (fun _=>0) ho11 ?_ ?_
 intro k4 ss a5 K6 cont7 hK8 hcont9 h hr10
 obtain ⟨s1,s2,s3⟩:=ss
 replace h:ref02_deep_L0 n (m_ref02_deep n) v0_l v1_i (k4+1) s1 s2 s3=some o11:=h
 rw [ref02_deep_L0] at h
 conv=>lhs;whnf
 revert h
 refine ix ?_;intro x12
 refine ca hc (fun _ h=>ok_ref02_kids h) ?_;intro y13
 refine br ?_ ?_
 refine ca hc (fun _ h=>ih h) ?_;intro y16
 refine ca hc (fun _ h=>ok_ref02_End h) ?_;intro y18
 exact fun h=>cq (hcont9 ((if s1<(IntKind.i64.wrap (1+y16)) then (IntKind.i64.wrap (1+y16)) else s1),y18,IntKind.i64.wrap (s3+1)) (fun _=>0) h)
 intro h;cases sj h
 exact kq (hr10 (fun _=>0))
 refine lrc ?_ ?_
 intro v e;subst e;cases sj h;rfl
 intro x21 a20 e;subst e
 dsimp only at h
 conv=>lhs;whnf
 revert h
 exact rz
theorem all_ref02_deep : ∀ n, IH_ref02_deep n
  | 0 => by unfold IH_ref02_deep OK_ref02_deep; intros; rename_i h; exact absurd h (by intro h; cases h)
  | n + 1 => have ih := all_ref02_deep n
    st_ref02_deep n ih
theorem ok_ref02_deep {n : Nat} : OK_ref02_deep n := (all_ref02_deep n)
theorem ok_ref02_floors {n:Nat} ⦃r:(List (List Int))⦄:m_ref02_floors n=some r→CN n 114 [] []=some (AV.sl 1 (List.map encRow r),[]):=by
 intro h;rcases n with _|n;cases h
 rw [m_ref02_floors] at h
 refine callN_eq' Tryz.func114 (by rfl) rfl rfl (Nat.le_of_ble_eq_true rfl) ?_
 intro call hc;conv=>lhs;whnf
 revert h
 exact rz
theorem ok_ref02_Is {n:Nat} ⦃v0_l:(List S_api_Token)⦄ ⦃v1_i:Int⦄ ⦃v2_sign:(List UInt8)⦄ ⦃r:Bool⦄:m_ref02_Is n v0_l v1_i v2_sign=some r→CN n 77 [AV.sl 4 (List.map c_api_Token v0_l),iA v1_i,sA v2_sign] []=some (bA r,[]):=by
 intro h;rcases n with _|n;cases h
 rw [m_ref02_Is] at h
 refine callN_eq' Tryz.func77 (by rfl) rfl rfl (Nat.le_of_ble_eq_true rfl) ?_
 intro call hc;conv=>lhs;whnf
 revert h
 refine br ?_ ?_
 refine ix ?_;intro x2
 refine br ?_ ?_
 refine ix ?_;intro x4
 exact rz
 exact rz
 exact rz
theorem ok_ref02_Place {n:Nat} ⦃v0_l:(List S_api_Token)⦄ ⦃v1_i:Int⦄ ⦃r:Int⦄:m_ref02_Place n v0_l v1_i=some r→CN n 98 [AV.sl 4 (List.map c_api_Token v0_l),iA v1_i] []=some (iA r,[]):=by
 intro h;rcases n with _|n;cases h
 rw [m_ref02_Place] at h
 refine callN_eq' Tryz.func98 (by rfl) rfl rfl (Nat.le_of_ble_eq_true rfl) ?_
 intro call hc;conv=>lhs;whnf
 revert h
 refine br ?_ ?_
 refine ix ?_;intro x2
 exact rz
 refine br ?_ ?_
 exact rz
 refine ix ?_;intro x4
 refine ix ?_;intro x5
 exact rz
theorem ok_ref02_fail {n:Nat} ⦃v0_l:(List S_api_Token)⦄ ⦃v1_i:Int⦄ ⦃r:S_ref02_got⦄:m_ref02_fail n v0_l v1_i=some r→CN n 122 [AV.sl 4 (List.map c_api_Token v0_l),iA v1_i] []=some (AV.agg [AV.sl 5 (List.map c_api_Node r.f_l),iA r.f_to,iA r.f_e,iA r.f_at],[]):=by
 intro h;rcases n with _|n;cases h
 rw [m_ref02_fail] at h
 refine callN_eq' Tryz.func122 (by rfl) rfl rfl (Nat.le_of_ble_eq_true rfl) ?_
 intro call hc;conv=>lhs;whnf
 revert h
 refine br ?_ ?_
 refine ca hc (fun _ h=>ok_ref02_Place h) ?_;intro y2
 exact rz
 refine ca hc (fun _ h=>ok_ref02_Place h) ?_;intro y4
 exact rz
theorem ok_ref02_sign {n:Nat} ⦃v0_op:Int⦄ ⦃r:(List UInt8)⦄:m_ref02_sign n v0_op=some r→CN n 123 [iA v0_op] []=some (sA r,[]):=by
 intro h;rcases n with _|n;cases h
 rw [m_ref02_sign] at h
 refine callN_eq' Tryz.func123 (by rfl) rfl rfl (Nat.le_of_ble_eq_true rfl) ?_
 intro call hc;conv=>lhs;whnf
 revert h
 intro h
 refine bind_some2 h ?_;clear h;intro x1 hx1 h
 refine bif_pos (by first|exact idx_in hx1|(have q:=idx_in hx1;exact q)) ?_
 simp only [(show nth? ([[sA (([33]:List UInt8))],[sA (([43]:List UInt8))],[sA (([45]:List UInt8))],[sA (([42]:List UInt8))],[sA (([61,61]:List UInt8))],[sA (([33,61]:List UInt8))],[sA (([60]:List UInt8))],[sA (([60,61]:List UInt8))],[sA (([38,38]:List UInt8))],[sA (([124,124]:List UInt8))]]:List (List AV)) (IntKind.i64.wrap (v0_op - 5)).toNat=some (encS x1) from idx_nth (f:=encS) hx1),ls]
 conv=>lhs;whnf
 revert h
 exact rz
theorem ok_ref02_which {n:Nat} ⦃v0_l:(List S_api_Token)⦄ ⦃v1_i:Int⦄ ⦃v2_ops:(List Int)⦄ ⦃r:Int⦄:m_ref02_which n v0_l v1_i v2_ops=some r→CN n 113 [AV.sl 4 (List.map c_api_Token v0_l),iA v1_i,AV.sl 1 (List.map encI v2_ops)] []=some (iA r,[]):=by
 intro h;rcases n with _|n;cases h
 rw [m_ref02_which] at h
 refine callN_eq' Tryz.func113 (by rfl) rfl rfl (Nat.le_of_ble_eq_true rfl) ?_
 intro call hc;conv=>lhs;whnf
 revert h
 intro h;refine bind_some2 h ?_;clear h;intro o9 ho9 h
 refine lq (σ:=Int) (τ:=Unit) (ν:=Int) 0 (fun s1 a3=>stOf 26 [(0,AV.sl 4 (List.map c_api_Token v0_l)),(1,iA v1_i),(2,AV.sl 1 (List.map encI v2_ops)),(7,iA s1)]) (fun s1 a3=>[]) (fun _ a18=>stOf 26 []) (fun _ a18=>[]) (fun v=>(iA v,[])) (fun k s=>ref02_which_L0 n v0_l v1_i v2_ops k s) (fun s=>rfl) o9 n 0 (fun _=>0) ho9 ?_ ?_
 intro k2 s1 a3 K4 cont5 hK6 hcont7 h hr8
 replace h:ref02_which_L0 n v0_l v1_i v2_ops (k2+1) s1=some o9:=h
 rw [ref02_which_L0] at h
 conv=>lhs;whnf
 revert h
 refine br ?_ ?_
 refine ix ?_;intro x11
 refine ca hc (fun _ h=>ok_ref02_sign h) ?_;intro y12
 refine ca hc (fun _ h=>ok_ref02_Is h) ?_;intro y14
 refine br ?_ ?_
 refine ix ?_;intro x17
 intro h;cases sj h
 refine (hK6 _ _).trans ?_
 refine Eq.trans ?_ (Eq.symm (show _=some _ from hr8))
 conv=>lhs;whnf
 exact rq
 exact fun h=>cq (hcont7 (IntKind.i64.wrap (s1+1)) (fun _=>0) h)
 intro h;cases sj h
 exact kq (hr8 (fun _=>0))
 refine lrc ?_ ?_
 intro v e;subst e;cases sj h;rfl
 intro t a18 e;subst e
 dsimp only at h
 conv=>lhs;whnf
 revert h
 exact rz
def OK_ref02_floor (n:Nat):Prop:=∀ ⦃v0_l:(List S_api_Token)⦄ ⦃v1_i:Int⦄ ⦃v2_in:Int⦄ ⦃v3_n:Int⦄ ⦃r:S_ref02_got⦄,m_ref02_floor n v0_l v1_i v2_in v3_n=some r→CN n 100 [AV.sl 4 (List.map c_api_Token v0_l),iA v1_i,iA v2_in,iA v3_n] []=some (AV.agg [AV.sl 5 (List.map c_api_Node r.f_l),iA r.f_to,iA r.f_e,iA r.f_at],[])
def OK_ref02_prim (n:Nat):Prop:=∀ ⦃v0_l:(List S_api_Token)⦄ ⦃v1_i:Int⦄ ⦃v2_in:Int⦄ ⦃r:S_ref02_got⦄,m_ref02_prim n v0_l v1_i v2_in=some r→CN n 112 [AV.sl 4 (List.map c_api_Token v0_l),iA v1_i,iA v2_in] []=some (AV.agg [AV.sl 5 (List.map c_api_Node r.f_l),iA r.f_to,iA r.f_e,iA r.f_at],[])
def IH_ref02_floor (n : Nat) : Prop := OK_ref02_floor n ∧ OK_ref02_prim n
theorem st_ref02_floor (n:Nat) (ih:IH_ref02_floor n):OK_ref02_floor (n+1):=by
 intro v0_l v1_i v2_in v3_n r h
 rw [m_ref02_floor] at h
 refine callN_eq' Tryz.func100 (by rfl) rfl rfl (Nat.le_of_ble_eq_true rfl) ?_
 intro call hc;conv=>lhs;whnf
 revert h
 refine br ?_ ?_
 refine ca hc (fun _ h=>ih.2 h) ?_;intro y2
 exact rz
 refine ca hc (fun _ h=>ih.1 h) ?_;intro y4
 intro h;refine bind_some2 h ?_;clear h;intro o17 ho17 h
 refine lq (σ:=((List S_api_Node)×Int×Int×Int)) (τ:=((List S_api_Node)×Int×Int×Int)) (ν:=S_ref02_got) 0 (fun (s6,s7,s8,s9) a11=>stOf 78 [(0,AV.sl 4 (List.map c_api_Token v0_l)),(2,iA v2_in),(3,iA v3_n),(8,AV.ptr 0 0),(9,AV.ptr 1 0)]) (fun (s6,s7,s8,s9) a11=>[Ob.var 116 [AV.nils,iA (0),iA (0),iA (0)],Ob.var 116 [AV.sl 5 (List.map c_api_Node s6),iA s7,iA s8,iA s9]]) (fun (x35,x36,x37,x38) a34=>stOf 78 [(8,AV.ptr 0 0),(9,AV.ptr 1 0)]) (fun (x35,x36,x37,x38) a34=>[Ob.var 116 [AV.nils,iA (0),iA (0),iA (0)],Ob.var 116 [AV.sl 5 (List.map c_api_Node x35),iA x36,iA x37,iA x38]]) (fun v=>(AV.agg [AV.sl 5 (List.map c_api_Node v.f_l),iA v.f_to,iA v.f_e,iA v.f_at],[])) (fun k s=>ref02_floor_L0 n (m_ref02_floor n) v0_l v2_in v3_n k s.1 s.2.1 s.2.2.1 s.2.2.2) (fun s=>rfl) o17 n (y4.f_l,y4.f_to,y4.f_e,y4.f_at) (fun _=>0) ho17 ?_ ?_
 intro k10 ss a11 K12 cont13 hK14 hcont15 h hr16
 obtain ⟨s6,s7,s8,s9⟩:=ss
 replace h:ref02_floor_L0 n (m_ref02_floor n) v0_l v2_in v3_n (k10+1) s6 s7 s8 s9=some o17:=h
 rw [ref02_floor_L0] at h
 conv=>lhs;whnf
 revert h
 refine br ?_ ?_
 refine ca hc (fun _ h=>ok_ref02_floors h) ?_;intro y19
 refine ix ?_;intro x21
 refine ca hc (fun _ h=>ok_ref02_which h) ?_;intro y22
 refine br ?_ ?_
 intro h;cases sj h
 refine (hK14 _ _).trans ?_
 refine Eq.trans ?_ (Eq.symm (show _=some _ from hr16))
 conv=>lhs;whnf
 exact rq
 refine ca hc (fun _ h=>ih.1 h) ?_;intro y25
 refine br ?_ ?_
 intro h;cases sj h
 refine (hK14 _ _).trans ?_
 refine Eq.trans ?_ (Eq.symm (show _=some _ from hr16))
 conv=>lhs;whnf
 exact rq
 refine ix ?_;intro x28
 refine ar (ap c_api_Node ([[iA y22,iA (0),sA (([]:List UInt8)),sA (([]:List UInt8)),iA x28.f_At]]) ([(⟨y22,0,([]:List UInt8),([]:List UInt8),x28.f_At⟩:S_api_Node)]:List S_api_Node) (List.map c_api_Node s6) s6) ?_
 refine ar (ap c_api_Node (List.map c_api_Node (([(⟨y22,0,([]:List UInt8),([]:List UInt8),x28.f_At⟩:S_api_Node)]:List S_api_Node)++s6)) (([(⟨y22,0,([]:List UInt8),([]:List UInt8),x28.f_At⟩:S_api_Node)]:List S_api_Node)++s6) (List.map c_api_Node y25.f_l) y25.f_l) ?_
 refine br ?_ ?_
 intro h;cases sj h
 refine (hK14 _ _).trans ?_
 refine Eq.trans ?_ (Eq.symm (show _=some _ from hr16))
 conv=>lhs;whnf
 try simp only [ls]
 exact fq (y:=some (AV.agg [AV.sl 5 (List.take (List.length (((([(⟨y22,0,([]:List UInt8),([]:List UInt8),x28.f_At⟩:S_api_Node)]:List S_api_Node)++s6)++y25.f_l))) (List.map c_api_Node ((([(⟨y22,0,([]:List UInt8),([]:List UInt8),x28.f_At⟩:S_api_Node)]:List S_api_Node)++s6)++y25.f_l))),iA y25.f_to,iA (0),iA (0)],[]))
 exact fun h=>cq (hcont15 (((([(⟨y22,0,([]:List UInt8),([]:List UInt8),x28.f_At⟩:S_api_Node)]:List S_api_Node)++s6)++y25.f_l),y25.f_to,0,0) (fun _=>0) h)
 intro h;cases sj h
 exact kq (hr16 (fun _=>0))
 refine lrc ?_ ?_
 intro v e;subst e;cases sj h;rfl
 intro t a34 e;subst e
 obtain ⟨x35,x36,x37,x38⟩:=t
 dsimp only at h
 conv=>lhs;whnf
 revert h
 exact rz
theorem st_ref02_prim (n:Nat) (ih:IH_ref02_floor n):OK_ref02_prim (n+1):=by
 intro v0_l v1_i v2_in r h
 rw [m_ref02_prim] at h
 refine callN_eq' Tryz.func112 (by rfl) rfl rfl (Nat.le_of_ble_eq_true rfl) ?_
 intro call hc;conv=>lhs;whnf
 revert h
 refine br ?_ ?_
 refine ca hc (fun _ h=>ok_ref02_fail h) ?_;intro y2
 exact rz
 refine ix ?_;intro x4
 refine ca hc (fun _ h=>ok_ref02_Is h) ?_;intro y5
 refine br ?_ ?_
 refine br ?_ ?_
 exact rz
 refine ca hc (fun _ h=>ok_ref02_Is h) ?_;intro y9
 refine br ?_ ?_
 refine ca hc (fun _ h=>ih.2 h) ?_;intro y12
 refine br ?_ ?_
 refine ar (ap c_api_Node ([[iA (5),iA (0),sA (([]:List UInt8)),sA (([]:List UInt8)),iA x4.f_At]]) ([(⟨5,0,([]:List UInt8),([]:List UInt8),x4.f_At⟩:S_api_Node)]:List S_api_Node) (List.map c_api_Node y12.f_l) y12.f_l) ?_
 intro h;cases sj h
 try simp only [ls]
 exact fq (y:=some (AV.agg [AV.sl 5 (List.take (List.length ((([(⟨5,0,([]:List UInt8),([]:List UInt8),x4.f_At⟩:S_api_Node)]:List S_api_Node)++y12.f_l))) (List.map c_api_Node (([(⟨5,0,([]:List UInt8),([]:List UInt8),x4.f_At⟩:S_api_Node)]:List S_api_Node)++y12.f_l))),iA y12.f_to,iA y12.f_e,iA y12.f_at],[]))
 exact rz
 refine ca hc (fun _ h=>ok_ref02_Is h) ?_;intro y17
 refine br ?_ ?_
 refine ca hc (fun _ h=>ih.1 h) ?_;intro y20
 refine br ?_ ?_
 refine ca hc (fun _ h=>ok_ref02_Is h) ?_;intro y23
 refine br ?_ ?_
 exact rz
 refine ca hc (fun _ h=>ok_ref02_fail h) ?_;intro y26
 exact rz
 exact rz
 refine br ?_ ?_
 exact rz
 refine br ?_ ?_
 refine ca hc (fun _ h=>ok_ref02_fail h) ?_;intro y30
 exact rz
 refine ca hc (fun _ h=>ok_ref01_Name h) ?_;intro y32
 refine br ?_ ?_
 refine ca hc (fun _ h=>ok_ref02_Is h) ?_;intro y35
 refine br ?_ ?_
 refine br ?_ ?_
 refine ca hc (fun _ h=>ok_ref02_fail h) ?_;intro y39
 exact rz
 refine ix ?_;intro x41
 refine br ?_ ?_
 refine ca hc (fun _ h=>ok_ref02_fail h) ?_;intro y43
 exact rz
 refine ix ?_;intro x45
 refine ca hc (fun _ h=>ok_ref01_Name h) ?_;intro y46
 refine br ?_ ?_
 refine ix ?_;intro x49
 exact rz
 refine ca hc (fun _ h=>ok_ref02_fail h) ?_;intro y50
 exact rz
 exact rz
 refine ca hc (fun _ h=>ok_ref02_fail h) ?_;intro y52
 exact rz
 refine ca hc (fun _ h=>ok_ref02_Is h) ?_;intro y54
 refine br ?_ ?_
 refine br ?_ ?_
 exact rz
 refine ca hc (fun _ h=>ok_ref02_Is h) ?_;intro y58
 refine br ?_ ?_
 refine ca hc (fun _ h=>ih.2 h) ?_;intro y61
 refine br ?_ ?_
 refine ar (ap c_api_Node ([[iA (5),iA (0),sA (([]:List UInt8)),sA (([]:List UInt8)),iA x4.f_At]]) ([(⟨5,0,([]:List UInt8),([]:List UInt8),x4.f_At⟩:S_api_Node)]:List S_api_Node) (List.map c_api_Node y61.f_l) y61.f_l) ?_
 intro h;cases sj h
 try simp only [ls]
 exact fq (y:=some (AV.agg [AV.sl 5 (List.take (List.length ((([(⟨5,0,([]:List UInt8),([]:List UInt8),x4.f_At⟩:S_api_Node)]:List S_api_Node)++y61.f_l))) (List.map c_api_Node (([(⟨5,0,([]:List UInt8),([]:List UInt8),x4.f_At⟩:S_api_Node)]:List S_api_Node)++y61.f_l))),iA y61.f_to,iA y61.f_e,iA y61.f_at],[]))
 exact rz
 refine ca hc (fun _ h=>ok_ref02_Is h) ?_;intro y66
 refine br ?_ ?_
 refine ca hc (fun _ h=>ih.1 h) ?_;intro y69
 refine br ?_ ?_
 refine ca hc (fun _ h=>ok_ref02_Is h) ?_;intro y72
 refine br ?_ ?_
 exact rz
 refine ca hc (fun _ h=>ok_ref02_fail h) ?_;intro y75
 exact rz
 exact rz
 refine br ?_ ?_
 exact rz
 refine br ?_ ?_
 refine ca hc (fun _ h=>ok_ref02_fail h) ?_;intro y79
 exact rz
 refine ca hc (fun _ h=>ok_ref01_Name h) ?_;intro y81
 refine br ?_ ?_
 refine ca hc (fun _ h=>ok_ref02_Is h) ?_;intro y84
 refine br ?_ ?_
 refine br ?_ ?_
 refine ca hc (fun _ h=>ok_ref02_fail h) ?_;intro y88
 exact rz
 refine ix ?_;intro x90
 refine br ?_ ?_
 refine ca hc (fun _ h=>ok_ref02_fail h) ?_;intro y92
 exact rz
 refine ix ?_;intro x94
 refine ca hc (fun _ h=>ok_ref01_Name h) ?_;intro y95
 refine br ?_ ?_
 refine ix ?_;intro x98
 exact rz
 refine ca hc (fun _ h=>ok_ref02_fail h) ?_;intro y99
 exact rz
 exact rz
 refine ca hc (fun _ h=>ok_ref02_fail h) ?_;intro y101
 exact rz
 refine ca hc (fun _ h=>ok_ref02_Is h) ?_;intro y103
 refine br ?_ ?_
 refine ca hc (fun _ h=>ih.2 h) ?_;intro y106
 refine br ?_ ?_
 refine ar (ap c_api_Node ([[iA (5),iA (0),sA (([]:List UInt8)),sA (([]:List UInt8)),iA x4.f_At]]) ([(⟨5,0,([]:List UInt8),([]:List UInt8),x4.f_At⟩:S_api_Node)]:List S_api_Node) (List.map c_api_Node y106.f_l) y106.f_l) ?_
 intro h;cases sj h
 try simp only [ls]
 exact fq (y:=some (AV.agg [AV.sl 5 (List.take (List.length ((([(⟨5,0,([]:List UInt8),([]:List UInt8),x4.f_At⟩:S_api_Node)]:List S_api_Node)++y106.f_l))) (List.map c_api_Node (([(⟨5,0,([]:List UInt8),([]:List UInt8),x4.f_At⟩:S_api_Node)]:List S_api_Node)++y106.f_l))),iA y106.f_to,iA y106.f_e,iA y106.f_at],[]))
 exact rz
 refine ca hc (fun _ h=>ok_ref02_Is h) ?_;intro y111
 refine br ?_ ?_
 refine ca hc (fun _ h=>ih.1 h) ?_;intro y114
 refine br ?_ ?_
 refine ca hc (fun _ h=>ok_ref02_Is h) ?_;intro y117
 refine br ?_ ?_
 exact rz
 refine ca hc (fun _ h=>ok_ref02_fail h) ?_;intro y120
 exact rz
 exact rz
 refine br ?_ ?_
 exact rz
 refine br ?_ ?_
 refine ca hc (fun _ h=>ok_ref02_fail h) ?_;intro y124
 exact rz
 refine ca hc (fun _ h=>ok_ref01_Name h) ?_;intro y126
 refine br ?_ ?_
 refine ca hc (fun _ h=>ok_ref02_Is h) ?_;intro y129
 refine br ?_ ?_
 refine br ?_ ?_
 refine ca hc (fun _ h=>ok_ref02_fail h) ?_;intro y133
 exact rz
 refine ix ?_;intro x135
 refine br ?_ ?_
 refine ca hc (fun _ h=>ok_ref02_fail h) ?_;intro y137
 exact rz
 refine ix ?_;intro x139
 refine ca hc (fun _ h=>ok_ref01_Name h) ?_;intro y140
 refine br ?_ ?_
 refine ix ?_;intro x143
 exact rz
 refine ca hc (fun _ h=>ok_ref02_fail h) ?_;intro y144
 exact rz
 exact rz
 refine ca hc (fun _ h=>ok_ref02_fail h) ?_;intro y146
 exact rz
theorem all_ref02_floor : ∀ n, IH_ref02_floor n
  | 0 => ⟨by unfold OK_ref02_floor; intros; rename_i h; exact absurd h (by intro h; cases h), by unfold OK_ref02_prim; intros; rename_i h; exact absurd h (by intro h; cases h)⟩
  | n + 1 => have ih := all_ref02_floor n
    ⟨st_ref02_floor n ih, st_ref02_prim n ih⟩
theorem ok_ref02_floor {n : Nat} : OK_ref02_floor n := (all_ref02_floor n).1
theorem ok_ref02_Parse {n:Nat} ⦃v0_l:(List S_api_Token)⦄ ⦃v1_i:Int⦄ ⦃r:((List S_api_Node)×Int×Int×Int)⦄:m_ref02_Parse n v0_l v1_i=some r→CN n 82 [AV.sl 4 (List.map c_api_Token v0_l),iA v1_i] []=some (AV.tup [AV.sl 5 (List.map c_api_Node r.1),iA r.2.1,iA r.2.2.1,iA r.2.2.2],[]):=by
 intro h;rcases n with _|n;cases h
 rw [m_ref02_Parse] at h
 refine callN_eq' Tryz.func82 (by rfl) rfl rfl (Nat.le_of_ble_eq_true rfl) ?_
 intro call hc;conv=>lhs;whnf
 revert h
 refine br ?_ ?_
 exact rz
 refine ca hc (fun _ h=>ok_ref02_floor h) ?_;intro y2
 refine br ?_ ?_
 exact rz
 refine ca hc (fun _ h=>ok_ref02_deep h) ?_;intro y5
 refine br ?_ ?_
 refine ix ?_;intro x8
 exact rz
 refine br ?_ ?_
 refine ix ?_;intro x10
 exact rz
 exact rz
theorem ok_ref02_Names {n:Nat} ⦃v0_l:(List S_api_Node)⦄ ⦃r:(List S_api_Node)⦄:m_ref02_Names n v0_l=some r→CN n 61 [AV.sl 5 (List.map c_api_Node v0_l)] []=some (AV.sl 5 (List.map c_api_Node r),[]):=by
 intro h;rcases n with _|n;cases h
 rw [m_ref02_Names] at h
 refine callN_eq' Tryz.func61 (by rfl) rfl rfl (Nat.le_of_ble_eq_true rfl) ?_
 intro call hc;conv=>lhs;whnf
 revert h
 intro h;refine bind_some2 h ?_;clear h;intro o10 ho10 h
 refine lq (σ:=(Int×(List S_api_Node))) (τ:=(List S_api_Node)) (ν:=(List S_api_Node)) 0 (fun (s1,s2) a4=>stOf 41 [(0,AV.sl 5 (List.map c_api_Node v0_l)),(3,AV.row 0 (List.length s2)),(4,iA s1)]) (fun (s1,s2) a4=>[Ob.row 63 5 (List.map c_api_Node s2)]) (fun x28 a27=>stOf 41 [(3,AV.row 0 (List.length x28))]) (fun x28 a27=>[Ob.row 63 5 (List.map c_api_Node x28)]) (fun v=>(AV.sl 5 (List.map c_api_Node v),[])) (fun k s=>ref02_Names_L0 n v0_l k s.1 s.2) (fun s=>rfl) o10 n (0,([]:List S_api_Node)) (fun _=>0) ho10 ?_ ?_
 intro k3 ss a4 K5 cont6 hK7 hcont8 h hr9
 obtain ⟨s1,s2⟩:=ss
 replace h:ref02_Names_L0 n v0_l (k3+1) s1 s2=some o10:=h
 rw [ref02_Names_L0] at h
 conv=>lhs;whnf
 revert h
 refine br ?_ ?_
 refine ix ?_;intro x12
 refine br ?_ ?_
 refine ix ?_;intro x14
 refine ar (ap c_api_Node (List.map c_api_Node s2) s2 ([[iA x14.f_Op,iA x14.f_N,sA x14.f_Name,sA x14.f_In,iA x14.f_At]]) ([x14]:List S_api_Node)) ?_
 exact fun h=>cq (hcont8 (IntKind.i64.wrap (s1+1),(s2++([x14]:List S_api_Node))) (fun _=>0) h)
 refine ix ?_;intro x17
 refine br ?_ ?_
 refine ix ?_;intro x19
 refine ar (ap c_api_Node (List.map c_api_Node s2) s2 ([[iA x19.f_Op,iA x19.f_N,sA x19.f_Name,sA x19.f_In,iA x19.f_At]]) ([x19]:List S_api_Node)) ?_
 exact fun h=>cq (hcont8 (IntKind.i64.wrap (s1+1),(s2++([x19]:List S_api_Node))) (fun _=>0) h)
 refine ix ?_;intro x22
 refine br ?_ ?_
 refine ix ?_;intro x24
 refine ar (ap c_api_Node (List.map c_api_Node s2) s2 ([[iA x24.f_Op,iA x24.f_N,sA x24.f_Name,sA x24.f_In,iA x24.f_At]]) ([x24]:List S_api_Node)) ?_
 exact fun h=>cq (hcont8 (IntKind.i64.wrap (s1+1),(s2++([x24]:List S_api_Node))) (fun _=>0) h)
 exact fun h=>cq (hcont8 (IntKind.i64.wrap (s1+1),s2) (fun _=>0) h)
 intro h;cases sj h
 exact kq (hr9 (fun _=>0))
 refine lrc ?_ ?_
 intro v e;subst e;cases sj h;rfl
 intro x28 a27 e;subst e
 dsimp only at h
 conv=>lhs;whnf
 revert h
 intro h;obtain rfl:=sj h
 try simp only [ls]
 exact fq (y:=some (AV.sl 5 (List.take (List.length x28) (List.map c_api_Node x28)),[]))
theorem ok_ref02_node {n:Nat} ⦃v0_x:S_api_Node⦄ ⦃r:Bool⦄:m_ref02_node n v0_x=some r→CN n 90 [AV.agg [iA v0_x.f_Op,iA v0_x.f_N,sA v0_x.f_Name,sA v0_x.f_In,iA v0_x.f_At]] []=some (bA r,[]):=by
 intro h;rcases n with _|n;cases h
 rw [m_ref02_node] at h
 refine callN_eq' Tryz.func90 (by rfl) rfl rfl (Nat.le_of_ble_eq_true rfl) ?_
 intro call hc;conv=>lhs;whnf
 revert h
 refine br ?_ ?_
 exact rz
 refine br ?_ ?_
 refine br ?_ ?_
 refine br ?_ ?_
 refine br ?_ ?_
 exact rz
 exact rz
 exact rz
 exact rz
 refine br ?_ ?_
 refine br ?_ ?_
 refine ca hc (fun _ h=>ok_ref01_Name h) ?_;intro y8
 refine br ?_ ?_
 exact rz
 exact rz
 exact rz
 refine br ?_ ?_
 refine br ?_ ?_
 refine ca hc (fun _ h=>ok_ref01_Name h) ?_;intro y13
 refine br ?_ ?_
 exact rz
 exact rz
 exact rz
 refine br ?_ ?_
 refine br ?_ ?_
 refine ca hc (fun _ h=>ok_ref01_Name h) ?_;intro y18
 refine br ?_ ?_
 refine ca hc (fun _ h=>ok_ref01_Name h) ?_;intro y21
 exact rz
 exact rz
 exact rz
 refine br ?_ ?_
 refine br ?_ ?_
 exact rz
 exact rz
 exact rz
theorem ok_ref02_Right {n:Nat} ⦃v0_l:(List S_api_Node)⦄ ⦃r:Bool⦄:m_ref02_Right n v0_l=some r→CN n 62 [AV.sl 5 (List.map c_api_Node v0_l)] []=some (bA r,[]):=by
 intro h;rcases n with _|n;cases h
 rw [m_ref02_Right] at h
 refine callN_eq' Tryz.func62 (by rfl) rfl rfl (Nat.le_of_ble_eq_true rfl) ?_
 intro call hc;conv=>lhs;whnf
 revert h
 refine br ?_ ?_
 exact rz
 refine br ?_ ?_
 exact rz
 refine ca hc (fun _ h=>ok_ref02_End h) ?_;intro y3
 refine br ?_ ?_
 exact rz
 intro h;refine bind_some2 h ?_;clear h;intro o14 ho14 h
 refine lq (σ:=Int) (τ:=Unit) (ν:=Bool) 0 (fun s6 a8=>stOf 34 [(0,AV.sl 5 (List.map c_api_Node v0_l)),(3,iA s6)]) (fun s6 a8=>[]) (fun _ a20=>stOf 34 [(0,AV.sl 5 (List.map c_api_Node v0_l))]) (fun _ a20=>[]) (fun v=>(bA v,[])) (fun k s=>ref02_Right_L0 n v0_l k s) (fun s=>rfl) o14 n 0 (fun _=>0) ho14 ?_ ?_
 intro k7 s6 a8 K9 cont10 hK11 hcont12 h hr13
 replace h:ref02_Right_L0 n v0_l (k7+1) s6=some o14:=h
 rw [ref02_Right_L0] at h
 conv=>lhs;whnf
 revert h
 refine br ?_ ?_
 refine ix ?_;intro x16
 refine ca hc (fun _ h=>ok_ref02_node h) ?_;intro y17
 refine br ?_ ?_
 exact fun h=>cq (hcont12 (IntKind.i64.wrap (s6+1)) (fun _=>0) h)
 intro h;cases sj h
 refine (hK11 _ _).trans ?_
 refine Eq.trans ?_ (Eq.symm (show _=some _ from hr13))
 conv=>lhs;whnf
 exact rq
 intro h;cases sj h
 exact kq (hr13 (fun _=>0))
 refine lrc ?_ ?_
 intro v e;subst e;cases sj h;rfl
 intro t a20 e;subst e
 dsimp only at h
 conv=>lhs;whnf
 revert h
 refine ca hc (fun _ h=>ok_ref02_deep h) ?_;intro y21
 exact rz
theorem ok_ref02_Light {n:Nat} ⦃v0_l:(List S_api_Node)⦄ ⦃r:Bool⦄:m_ref02_Light n v0_l=some r→CN n 14 [AV.sl 5 (List.map c_api_Node v0_l)] []=some (bA r,[]):=by
 intro h;rcases n with _|n;cases h
 rw [m_ref02_Light] at h
 refine callN_eq' Tryz.func14 (by rfl) rfl rfl (Nat.le_of_ble_eq_true rfl) ?_
 intro call hc;conv=>lhs;whnf
 revert h
 refine br ?_ ?_
 exact rz
 intro h;refine bind_some2 h ?_;clear h;intro o10 ho10 h
 refine lq (σ:=Int) (τ:=Unit) (ν:=Bool) 0 (fun s2 a4=>stOf 29 [(0,AV.sl 5 (List.map c_api_Node v0_l)),(3,iA s2)]) (fun s2 a4=>[]) (fun _ a16=>stOf 29 []) (fun _ a16=>[]) (fun v=>(bA v,[])) (fun k s=>ref02_Light_L0 n v0_l k s) (fun s=>rfl) o10 n 0 (fun _=>0) ho10 ?_ ?_
 intro k3 s2 a4 K5 cont6 hK7 hcont8 h hr9
 replace h:ref02_Light_L0 n v0_l (k3+1) s2=some o10:=h
 rw [ref02_Light_L0] at h
 conv=>lhs;whnf
 revert h
 refine br ?_ ?_
 refine ix ?_;intro x12
 refine br ?_ ?_
 intro h;cases sj h
 refine (hK7 _ _).trans ?_
 refine Eq.trans ?_ (Eq.symm (show _=some _ from hr9))
 conv=>lhs;whnf
 exact rq
 refine ix ?_;intro x14
 refine br ?_ ?_
 intro h;cases sj h
 refine (hK7 _ _).trans ?_
 refine Eq.trans ?_ (Eq.symm (show _=some _ from hr9))
 conv=>lhs;whnf
 exact rq
 exact fun h=>cq (hcont8 (IntKind.i64.wrap (s2+1)) (fun _=>0) h)
 intro h;cases sj h
 exact kq (hr9 (fun _=>0))
 refine lrc ?_ ?_
 intro v e;subst e;cases sj h;rfl
 intro t a16 e;subst e
 dsimp only at h
 conv=>lhs;whnf
 revert h
 exact rz
end Go.Proofs.YtpnhafdimkmbbaaGreat
end
