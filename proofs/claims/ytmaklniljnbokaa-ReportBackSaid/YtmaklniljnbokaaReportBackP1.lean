/- Parts of the proofs: what they lean on. Conditions: none. -/
import Derived.Test.YtmaklniljnbokaaProg
import Derived.Test.YtmaklniljnbokaaRpbS12
section
namespace Go.Proofs.Ytmaklniljnbokaa
open Go.RowKit Go.WideShapes
set_option linter.unusedVariables false
set_option linter.unusedSimpArgs false

theorem okWide_struct' {P : Program} {w : World} {r : Reach} {base : Nat} {t : TypeId} {v : Value} {fs : Array Field} (ht : P.underlying t = some (.struct fs)) (h : Value.okWide P w r base t v) : ∃ cs, v = .agg cs := by
  simp only [Value.okWide, ht] at h
  obtain ⟨cs, rfl, _⟩ := h
  exact ⟨cs, rfl⟩
end Go.Proofs.Ytmaklniljnbokaa
end

section
namespace Go.Proofs.Ytmaklniljnbokaa
set_option linter.unusedVariables false
set_option linter.unusedSimpArgs false
theorem rep_agg {α : Type} {r : Rd α} {enc : α → List AV} (he : Enc r enc) {W : World} {cs : Array Value} {x : α} (h : r.rel W (Value.agg cs).cells.toList x) : Rep (SAll W) W [] [] (.agg (enc x)) (.agg cs) := by
  obtain ⟨h1, h2⟩ := he _ _ _ h
  cases cs
  exact .agg _ _ _ _ h1 h2
theorem bs_inj {a b : List UInt8} (h : bs a = bs b) : a = b := by
  have := congrArg (fun x : ByteArray => x.data.toList) h
  simpa [bs] using this
def rd_int_i64 : Rd Int := rInt .i64
theorem op_int_i64 : Opens Try.prog 3 rd_int_i64 := opens_int Try.underlying3 (by kernel_rfl)
theorem en_int_i64 : Enc rd_int_i64 encI := enc_int _
def rd_sl_int : Rd (List Int) := rSlice rd_int_i64
theorem op_sl_int : Opens Try.prog 22 rd_sl_int := opens_slice Try.underlying22 (by kernel_rfl) op_int_i64 (by decide)
theorem en_sl_int : Enc rd_sl_int (fun l => [AV.sl 1 (l.map encI)]) := enc_slice en_int_i64
def rd_api_Op : Rd OpS := rMap (fun x => ⟨x.1, x.2.1, x.2.2⟩) (rPair rd_int_i64 (rPair rd_int_i64 rd_int_i64))
theorem op_api_Op : Opens Try.prog 70 rd_api_Op := opens_map _ (opens_struct Try.underlying70 (by kernel_rfl) (fields_cons rfl op_int_i64 (fields_cons rfl op_int_i64 (fields_one rfl op_int_i64) (by decide)) (by decide)))
theorem en_api_Op : Enc rd_api_Op encOp := enc_map (fun _ => rfl) (enc_pair en_int_i64 (enc_pair en_int_i64 en_int_i64))
def rd_sl_api_Op : Rd (List OpS) := rSlice rd_api_Op
theorem op_sl_api_Op : Opens Try.prog 58 rd_sl_api_Op := opens_slice Try.underlying58 (by kernel_rfl) op_api_Op (by decide)
theorem en_sl_api_Op : Enc rd_sl_api_Op (fun l => [AV.sl 3 (l.map encOp)]) := enc_slice en_api_Op
def rd_bool : Rd Bool := rBool
theorem op_bool : Opens Try.prog 4 rd_bool := opens_bool Try.underlying4 (by kernel_rfl)
theorem en_bool : Enc rd_bool encBl := enc_bool
def rd_api_Instr : Rd InstrS := rMap (fun x => ⟨x.1, x.2.1, x.2.2.1, x.2.2.2.1, x.2.2.2.2.1, x.2.2.2.2.2.1, x.2.2.2.2.2.2⟩) (rPair rd_int_i64 (rPair rd_int_i64 (rPair rd_int_i64 (rPair rd_sl_api_Op (rPair rd_sl_api_Op (rPair rd_bool rd_int_i64))))))
theorem op_api_Instr : Opens Try.prog 60 rd_api_Instr := opens_map _ (opens_struct Try.underlying60 (by kernel_rfl) (fields_cons rfl op_int_i64 (fields_cons rfl op_int_i64 (fields_cons rfl op_int_i64 (fields_cons rfl op_sl_api_Op (fields_cons rfl op_sl_api_Op (fields_cons rfl op_bool (fields_one rfl op_int_i64) (by decide)) (by decide)) (by decide)) (by decide)) (by decide)) (by decide)))
theorem en_api_Instr : Enc rd_api_Instr encIn := enc_map (fun _ => rfl) (enc_pair en_int_i64 (enc_pair en_int_i64 (enc_pair en_int_i64 (enc_pair en_sl_api_Op (enc_pair en_sl_api_Op (enc_pair en_bool en_int_i64))))))
def rd_sl_api_Instr : Rd (List InstrS) := rSlice rd_api_Instr
theorem op_sl_api_Instr : Opens Try.prog 57 rd_sl_api_Instr := opens_slice Try.underlying57 (by kernel_rfl) op_api_Instr (by decide)
theorem en_sl_api_Instr : Enc rd_sl_api_Instr (fun l => [AV.sl 7 (l.map encIn)]) := enc_slice en_api_Instr
def rd_sl_sl_api_Instr : Rd (List (List InstrS)) := rSlice rd_sl_api_Instr
theorem op_sl_sl_api_Instr : Opens Try.prog 23 rd_sl_sl_api_Instr := opens_slice Try.underlying23 (by kernel_rfl) op_sl_api_Instr (by decide)
theorem en_sl_sl_api_Instr : Enc rd_sl_sl_api_Instr (fun l => [AV.sl 1 (l.map encThr)]) := enc_slice en_sl_api_Instr
def rd_api_Unit : Rd UnitS := rMap (fun x => ⟨x.1, x.2.1, x.2.2.1, x.2.2.2⟩) (rPair rd_int_i64 (rPair rd_sl_int (rPair rd_sl_int rd_sl_sl_api_Instr)))
theorem op_api_Unit : Opens Try.prog 25 rd_api_Unit := opens_map _ (opens_struct Try.underlying25 (by kernel_rfl) (fields_cons rfl op_int_i64 (fields_cons rfl op_sl_int (fields_cons rfl op_sl_int (fields_one rfl op_sl_sl_api_Instr) (by decide)) (by decide)) (by decide)))
theorem en_api_Unit : Enc rd_api_Unit cellsU := enc_map (fun _ => rfl) (enc_pair en_int_i64 (enc_pair en_sl_int (enc_pair en_sl_int en_sl_sl_api_Instr)))
def rd_api_Result : Rd S_api_Result := rMap (fun x => ⟨x.1, x.2.1, x.2.2⟩) (rPair rd_bool (rPair rd_bool rd_sl_int))
theorem op_api_Result : Opens Try.prog 41 rd_api_Result := opens_map _ (opens_struct Try.underlying41 (by kernel_rfl) (fields_cons rfl op_bool (fields_cons rfl op_bool (fields_one rfl op_sl_int) (by decide)) (by decide)))
theorem en_api_Result : Enc rd_api_Result c_api_Result := enc_map (fun _ => rfl) (enc_pair en_bool (enc_pair en_bool en_sl_int))
def rd_sl_api_Result : Rd (List S_api_Result) := rSlice rd_api_Result
theorem op_sl_api_Result : Opens Try.prog 26 rd_sl_api_Result := opens_slice Try.underlying26 (by kernel_rfl) op_api_Result (by decide)
theorem en_sl_api_Result : Enc rd_sl_api_Result (fun l => [AV.sl 3 (l.map c_api_Result)]) := enc_slice en_api_Result
def rd_api_Verdict : Rd S_api_Verdict := rMap (fun x => ⟨x.1, x.2.1, x.2.2.1, x.2.2.2.1, x.2.2.2.2.1, x.2.2.2.2.2⟩) (rPair rd_int_i64 (rPair rd_sl_int (rPair rd_sl_int (rPair rd_sl_api_Result (rPair rd_int_i64 rd_int_i64)))))
theorem op_api_Verdict : Opens Try.prog 28 rd_api_Verdict := opens_map _ (opens_struct Try.underlying28 (by kernel_rfl) (fields_cons rfl op_int_i64 (fields_cons rfl op_sl_int (fields_cons rfl op_sl_int (fields_cons rfl op_sl_api_Result (fields_cons rfl op_int_i64 (fields_one rfl op_int_i64) (by decide)) (by decide)) (by decide)) (by decide)) (by decide)))
theorem en_api_Verdict : Enc rd_api_Verdict c_api_Verdict := enc_map (fun _ => rfl) (enc_pair en_int_i64 (enc_pair en_sl_int (enc_pair en_sl_int (enc_pair en_sl_api_Result (enc_pair en_int_i64 en_int_i64)))))
def rd_string : Rd (List UInt8) := rStr
theorem op_string : Opens Try.prog 9 rd_string := opens_str Try.underlying9 (by kernel_rfl)
end Go.Proofs.Ytmaklniljnbokaa
end

section
namespace Go.Proofs.Ytmaklniljnbokaa
set_option linter.unusedVariables false
set_option linter.unusedSimpArgs false
set_option maxRecDepth 100000

/-- Words between single blanks; the first one has begun. -/
def wGo : List UInt8 → List UInt8 → List (List UInt8)
  | w, [] => [w]
  | w, c :: l => if c = 32 then w :: wGo [] l else wGo (w ++ [c]) l
def wordsL (s : List UInt8) : List (List UInt8) := wGo [] s
theorem wGo_no : ∀ (a w : List UInt8), 32 ∉ a → wGo w a = [w ++ a]
  | [], w, _ => by simp [wGo]
  | c :: a, w, h => by
    rw [wGo, if_neg (fun e => h (by simp [e])), wGo_no a _ (fun e => h (by simp [e]))]
    simp
theorem wGo_sp : ∀ (a w b : List UInt8), 32 ∉ a → wGo w (a ++ 32 :: b) = (w ++ a) :: wGo [] b
  | [], w, b, _ => by simp [wGo]
  | c :: a, w, b, h => by
    rw [List.cons_append, wGo, if_neg (fun e => h (by simp [e])), wGo_sp a _ b (fun e => h (by simp [e]))]
    simp
theorem words_no {a : List UInt8} (h : 32 ∉ a) : wordsL a = [a] := by rw [wordsL, wGo_no a [] h]; rfl
theorem words_sp {a : List UInt8} (b : List UInt8) (h : 32 ∉ a) : wordsL (a ++ 32 :: b) = a :: wordsL b := by rw [wordsL, wGo_sp a [] b h]; rfl
theorem split_at (x : UInt8) : ∀ s : List UInt8, x ∉ s ∨ ∃ a b, s = a ++ x :: b ∧ x ∉ a
  | [] => .inl (by simp)
  | c :: s => by
    by_cases h : c = x
    · exact .inr ⟨[], s, by simp [h], by simp⟩
    · rcases split_at x s with h1 | ⟨a, b, rfl, h1⟩
      · exact .inl (by simp [h1, Ne.symm h])
      · exact .inr ⟨c :: a, b, rfl, by simp [h1, Ne.symm h]⟩
theorem words_ne (s : List UInt8) : wordsL s ≠ [] := by
  rcases split_at 32 s with h | ⟨a, b, rfl, h⟩
  · rw [words_no h]; simp
  · rw [words_sp b h]; simp
/-- The first word, and the others. -/
theorem words_head {s h : List UInt8} {r : List (List UInt8)} (hh : 32 ∉ h) (e : wordsL s = h :: r) : (s = h ∧ r = []) ∨ ∃ t, s = h ++ 32 :: t ∧ r = wordsL t := by
  rcases split_at 32 s with g | ⟨a, b, rfl, g⟩
  · rw [words_no g] at e; injection e with e1 e2; exact .inl ⟨e1, e2.symm⟩
  · rw [words_sp b g] at e; injection e with e1 e2; exact .inr ⟨b, by rw [e1], e2.symm⟩

def numsW (u : UnitS) (m : Int) : List (List UInt8) → Option (List Int)
  | [] => some []
  | w :: ws => if numU u m w < 0 then none else (numsW u m ws).map (numU u m w :: ·)
theorem name_ne (a : Agt) : a.name ≠ [] := by
  cases a with
  | thr t => simp [Agt.name]
  | fl t l => simp only [Agt.name]; split <;> simp
theorem numU_nil (u : UnitS) (m : Int) : numU u m [] = -1 := by
  unfold numU
  rw [List.findIdx?_eq_none_iff.2 (fun x _ => by simpa using name_ne x)]
end Go.Proofs.Ytmaklniljnbokaa
end

section
namespace Go.Proofs.Ytmaklniljnbokaa
set_option linter.unusedVariables false
set_option linter.unusedSimpArgs false
set_option maxRecDepth 100000

abbrev kO : List UInt8 := [111, 117, 116, 99, 111, 109, 101]
abbrev kS : List UInt8 := [115, 116, 97, 116, 101, 115]
abbrev kE : List UInt8 := [101, 100, 103, 101, 115]
abbrev kP : List UInt8 := [112, 114, 101, 102, 105, 120]
abbrev kC : List UInt8 := [99, 121, 99, 108, 101]
abbrev kL : List UInt8 := [99, 108, 97, 105, 109]
abbrev kH : List UInt8 := [104, 111, 108, 100, 115]
abbrev kF : List UInt8 := [102, 97, 105, 108, 115]
abbrev kB : List UInt8 := [98, 121]
abbrev kLH : List UInt8 := [99, 108, 97, 105, 109, 32, 104, 111, 108, 100, 115]
abbrev kLF : List UInt8 := [99, 108, 97, 105, 109, 32, 102, 97, 105, 108, 115]
def outN : List (List UInt8) → Option Int
  | [h, w] => if h = kO then (if w = outT 1 then some 1 else if w = outT 2 then some 2 else if w = outT 3 then some 3 else none) else none
  | _ => none
def numN (h : List UInt8) (lo hi : Int) : List (List UInt8) → Option Int
  | [a, w] => if a = h ∧ w.length ≤ 8 ∧ (numT w lo hi).2 = true then some (numT w lo hi).1 else none
  | _ => none
def agN (u : UnitS) (m : Int) (h : List UInt8) : List (List UInt8) → Option (List Int)
  | a :: r => if a = h then numsW u m r else none
  | [] => none
def resN (u : UnitS) (m : Int) : List (List UInt8) → Option S_api_Result
  | a :: x :: r => if a = kL ∧ (x = kH ∨ x = kF) then (match r with
    | [] => some ⟨decide (x = kH), false, []⟩
    | b :: r' => (agN u m kB (b :: r')).map fun l => ⟨decide (x = kH), true, l⟩) else none
  | _ => none
/-- What a line makes of a verdict; its words are given. -/
def putR (u : UnitS) (m : Int) (v : S_api_Verdict) (ws : List (List UInt8)) : Nat → Option S_api_Verdict
  | 0 => (outN ws).map fun i => ⟨i, v.f_Prefix, v.f_Cycle, v.f_Results, v.f_States, v.f_Edges⟩
  | 1 => (numN kS 1 100000 ws).map fun i => ⟨v.f_Outcome, v.f_Prefix, v.f_Cycle, v.f_Results, i, v.f_Edges⟩
  | 2 => (numN kE 0 10000000 ws).map fun i => ⟨v.f_Outcome, v.f_Prefix, v.f_Cycle, v.f_Results, v.f_States, i⟩
  | 3 => (agN u m kP ws).map fun l => ⟨v.f_Outcome, l, v.f_Cycle, v.f_Results, v.f_States, v.f_Edges⟩
  | 4 => (agN u m kC ws).map fun l => ⟨v.f_Outcome, v.f_Prefix, l, v.f_Results, v.f_States, v.f_Edges⟩
  | _ + 5 => if v.f_Results.length < 8 then (resN u m ws).map fun r => ⟨v.f_Outcome, v.f_Prefix, v.f_Cycle, v.f_Results ++ [r], v.f_States, v.f_Edges⟩ else none

def joinW : List (List UInt8) → List UInt8
  | [] => []
  | [w] => w
  | w :: x :: r => w ++ 32 :: joinW (x :: r)
theorem wGo_ne (w s : List UInt8) : wGo w s ≠ [] := by
  induction s generalizing w with
  | nil => simp [wGo]
  | cons c s ih => rw [wGo]; split
                   · simp
                   · exact ih _
theorem join_wGo : ∀ (s w : List UInt8), joinW (wGo w s) = w ++ s
  | [], w => by simp [wGo, joinW]
  | c :: s, w => by
    rw [wGo]
    split
    · rename_i h
      have := join_wGo s []
      cases hq : wGo [] s with
      | nil => exact absurd hq (wGo_ne _ _)
      | cons x r => rw [hq] at this; rw [joinW, this, h]; rfl
    · rw [join_wGo s]; simp
theorem join_words (s : List UInt8) : joinW (wordsL s) = s := join_wGo s []
theorem words_eq {s : List UInt8} {l : List (List UInt8)} (h : wordsL s = l) : s = joinW l := by rw [← h, join_words]
theorem wGo_hd : ∀ (s w : List UInt8), ∃ w' r, wGo w s = (w ++ w') :: r
  | [], w => ⟨[], [], by simp [wGo]⟩
  | c :: s, w => by
    rw [wGo]
    split
    · exact ⟨[], wGo [] s, by simp⟩
    · obtain ⟨w', r, h⟩ := wGo_hd s (w ++ [c])
      exact ⟨c :: w', r, by rw [h]; simp⟩
theorem wGo_pre : ∀ (a w b : List UInt8), 32 ∉ a → wGo w (a ++ b) = wGo (w ++ a) b
  | [], w, b, _ => by simp
  | c :: a, w, b, h => by
    rw [List.cons_append, wGo, if_neg (fun e => h (by simp [e])), wGo_pre a _ b (fun e => h (by simp [e]))]
    simp

theorem outN_s (s : List UInt8) : outN (wordsL s) = if s = kO ++ 32 :: outT 1 then some 1 else if s = kO ++ 32 :: outT 2 then some 2 else if s = kO ++ 32 :: outT 3 then some 3 else none := by
  by_cases c1 : s = kO ++ 32 :: outT 1
  · rw [if_pos c1, c1, words_sp _ (by decide), words_no (by decide)]; rfl
  by_cases c2 : s = kO ++ 32 :: outT 2
  · rw [if_neg c1, if_pos c2, c2, words_sp _ (by decide), words_no (by decide)]; rfl
  by_cases c3 : s = kO ++ 32 :: outT 3
  · rw [if_neg c1, if_neg c2, if_pos c3, c3, words_sp _ (by decide), words_no (by decide)]; rfl
  rw [if_neg c1, if_neg c2, if_neg c3]
  unfold outN
  split
  · rename_i h w e
    have hs := words_eq e
    split
    · rename_i hh
      subst hh
      rw [if_neg (fun e => c1 (by rw [hs, e]; rfl)), if_neg (fun e => c2 (by rw [hs, e]; rfl)), if_neg (fun e => c3 (by rw [hs, e]; rfl))]
    · rfl
  · rfl
def tailS (u : UnitS) (m : Int) (b : Bool) : List UInt8 → Option S_api_Result
  | [] => some ⟨b, false, []⟩
  | c :: t => if c = 32 then (agN u m kB (wordsL t)).map fun l => ⟨b, true, l⟩ else none
def resS (u : UnitS) (m : Int) (s : List UInt8) : Option S_api_Result := if kLH <+: s then tailS u m true (s.drop 11) else if kLF <+: s then tailS u m false (s.drop 11) else none
theorem resN_t (u : UnitS) (m : Int) (x : List UInt8) (hx : x = kH ∨ x = kF) (t : List UInt8) : resN u m (wordsL (kL ++ 32 :: (x ++ t))) = tailS u m (decide (x = kH)) t := by
  have hx32 : 32 ∉ x := by rcases hx with rfl | rfl <;> decide
  rw [words_sp _ (by decide)]
  cases t with
  | nil =>
    rw [List.append_nil, words_no hx32, resN, if_pos ⟨rfl, hx⟩]; rfl
  | cons c t =>
    by_cases hc : c = 32
    · subst hc
      rw [words_sp _ hx32, tailS, if_pos rfl]
      cases hq : wordsL t with
      | nil => exact absurd hq (words_ne t)
      | cons b r => rw [resN, if_pos ⟨rfl, hx⟩]
    · rw [tailS, if_neg hc]
      obtain ⟨w', r, hq⟩ : ∃ w' r, wordsL (x ++ c :: t) = (x ++ c :: w') :: r := by
        rw [wordsL, wGo_pre x [] _ hx32, wGo, if_neg hc]
        obtain ⟨w', r, h⟩ := wGo_hd t ([] ++ x ++ [c])
        exact ⟨w', r, by rw [h]; simp⟩
      have hlx : x.length = 5 := by rcases hx with rfl | rfl <;> rfl
      have hno : ¬ (kL = kL ∧ (x ++ c :: w' = kH ∨ x ++ c :: w' = kF)) := by
        rintro ⟨_, h⟩
        rcases h with h | h
        · have := congrArg List.length h; simp [hlx] at this
        · have := congrArg List.length h; simp [hlx] at this
      rw [hq]
      cases r with
      | nil => rw [resN, if_neg hno]
      | cons b r => rw [resN, if_neg hno]
theorem resN_s (u : UnitS) (m : Int) (s : List UInt8) : resN u m (wordsL s) = resS u m s := by
  unfold resS
  by_cases c1 : kLH <+: s
  · obtain ⟨t, rfl⟩ := c1
    rw [if_pos ⟨t, rfl⟩]
    exact resN_t u m kH (.inl rfl) t
  by_cases c2 : kLF <+: s
  · obtain ⟨t, rfl⟩ := c2
    rw [if_neg c1, if_pos ⟨t, rfl⟩]
    exact resN_t u m kF (.inr rfl) t
  rw [if_neg c1, if_neg c2]
  unfold resN
  split
  · rename_i a x r e
    rw [if_neg]
    rintro ⟨rfl, h⟩
    rcases words_head (by decide) e with ⟨_, e2⟩ | ⟨t, e1, e2⟩
    · cases e2
    · have hx32 : 32 ∉ x := by rcases h with rfl | rfl <;> decide
      rcases words_head hx32 e2.symm with ⟨e3, _⟩ | ⟨t', e3, _⟩
      · rcases h with rfl | rfl
        · exact c1 ⟨[], by rw [e1, e3]; rfl⟩
        · exact c2 ⟨[], by rw [e1, e3]; rfl⟩
      · rcases h with rfl | rfl
        · exact c1 ⟨32 :: t', by rw [e1, e3]; rfl⟩
        · exact c2 ⟨32 :: t', by rw [e1, e3]; rfl⟩
  · rfl

theorem beq_dec (a b : List UInt8) : (a == b) = decide (a = b) := by by_cases h : a = b <;> simp [h]
end Go.Proofs.Ytmaklniljnbokaa
end

section
namespace Go.Proofs.Ytmaklniljnbokaa
set_option linter.unusedVariables false
set_option linter.unusedSimpArgs false
set_option maxRecDepth 100000

def v0V : S_api_Verdict := ⟨0, [], [], [], 0, 0⟩
def errP (k : Nat) : S_api_Verdict × Int × Int := (v0V, 8, ((k + 1 : Nat) : Int))
/-- A text is read, from within a line on. -/
def gPar (u : UnitS) (m : Int) : List UInt8 → List UInt8 → Nat → S_api_Verdict → S_api_Verdict × Int × Int
  | w, [], k, v => if w = [] ∧ 5 ≤ k then (v, 0, 0) else errP k
  | w, c :: l, k, v => if c = 10 then (match putR u m v (wordsL w) k with
    | some v' => gPar u m [] l (k + 1) v'
    | none => errP k) else gPar u m (w ++ [c]) l k v
def parseR (u : UnitS) (m : Int) (s : List UInt8) : S_api_Verdict × Int × Int := gPar u m [] s 0 v0V
theorem gPar_line (u : UnitS) (m : Int) : ∀ (a w b : List UInt8) (k : Nat) (v : S_api_Verdict), 10 ∉ a → gPar u m w (a ++ 10 :: b) k v = match putR u m v (wordsL (w ++ a)) k with
    | some v' => gPar u m [] b (k + 1) v'
    | none => errP k
  | [], w, b, k, v, _ => by rw [List.nil_append, gPar, if_pos rfl, List.append_nil]
  | c :: a, w, b, k, v, h => by
    rw [List.cons_append, gPar, if_neg (fun e => h (by simp [e])), gPar_line u m a _ b k v (fun e => h (by simp [e]))]
    simp
def Inv (k : Nat) (v : S_api_Verdict) : Prop := (k = 0 → v.f_Outcome = 0) ∧ (5 ≤ k → v.f_Results.length + 5 = k) ∧ (k < 5 → v.f_Results = [])
theorem inv_put {u : UnitS} {m : Int} {v v' : S_api_Verdict} {ws : List (List UInt8)} {k : Nat} (h : Inv k v) (e : putR u m v ws k = some v') : Inv (k + 1) v' := by
  obtain ⟨_, h2, h3⟩ := h
  refine ⟨fun h => by omega, fun hk => ?_, fun hk => ?_⟩
  · rcases Nat.lt_or_ge k 5 with c | c
    · obtain rfl : k = 4 := by omega
      rw [putR] at e
      obtain ⟨i, _, rfl⟩ := Option.map_eq_some_iff.1 e
      simp [h3 c]
    · obtain ⟨j, rfl⟩ : ∃ j, k = j + 5 := ⟨k - 5, by omega⟩
      rw [putR] at e
      split at e
      · obtain ⟨i, _, rfl⟩ := Option.map_eq_some_iff.1 e
        have := h2 c
        simp; omega
      · cases e
  · obtain rfl | rfl | rfl | rfl : k = 0 ∨ k = 1 ∨ k = 2 ∨ k = 3 := by omega
    all_goals
      rw [putR] at e
      obtain ⟨i, _, rfl⟩ := Option.map_eq_some_iff.1 e
      exact h3 (by omega)

end Go.Proofs.Ytmaklniljnbokaa
end

section
namespace Go.Proofs.Ytmaklniljnbokaa
set_option linter.unusedVariables false
set_option linter.unusedSimpArgs false
set_option maxRecDepth 100000

/-- No word is empty. -/
def okW (ws : List (List UInt8)) : Bool := ws.all fun w => !(w == [])
theorem cut_L (n : Nat) (s : List UInt8) (hs : s.length < 1000000) : ∀ (j k f i : Nat) (acc : List (List UInt8)), i + j = s.length → f ≤ i → acc.length ≤ i → j + 1 < k → report_cut_L0 n s k (f : Int) (i : Int) acc = some (bif okW (wGo ((s.take i).drop f) (s.drop i)) then .out (acc ++ wGo ((s.take i).drop f) (s.drop i)) else .ret ([], false)) := by
  have hfi : ∀ f i : Nat, f ≤ i → i ≤ s.length → (((i : Int) == (f : Int)) = ((s.take i).drop f == [])) := by
    intro f i h1 h2
    by_cases c : f = i
    · subst c
      rw [List.drop_of_length_le (by simp; omega)]; simp
    · rw [beq_eq_false_iff_ne.2 (by omega), beq_eq_false_iff_ne.2]
      intro e
      have := congrArg List.length e
      simp at this; omega
  intro j
  induction j with
  | zero =>
    intro k f i acc hi hf ha hk
    obtain ⟨k, rfl⟩ : ∃ j, k = j + 2 := ⟨k - 2, by omega⟩
    obtain rfl : i = s.length := by omega
    rw [report_cut_L0, bif_decide (by omega), beq_self_eq_true, cond_true, hfi f _ hf (Nat.le_refl _), List.drop_length, wGo]
    cases hw : ((s.take s.length).drop f == []) with
    | true => simp only [okW, List.all_cons, List.all_nil, hw, Bool.not_true, Bool.not_false, Bool.and_true, Bool.false_and, Bool.true_and, cond_true, cond_false]
    | false =>
      rw [cond_false, show (decide (0 ≤ (s.length : Int)) && decide ((s.length : Int) ≤ ((s.length : Nat) : Int)) && decide (0 ≤ (f : Int)) && decide ((f : Int) ≤ (s.length : Int))) = true by simp only [Bool.and_eq_true, decide_eq_true_eq]; omega, cond_true]
      simp only [Int.toNat_natCast]
      rw [bif_decide (by omega), wrap_one _ (by omega), report_cut_L0, bif_not (by omega)]
      simp only [okW, List.all_cons, List.all_nil, hw, Bool.not_true, Bool.not_false, Bool.and_true, Bool.false_and, Bool.true_and, cond_true, cond_false]
  | succ j ih =>
    intro k f i acc hi hf ha hk
    obtain ⟨k, rfl⟩ : ∃ j, k = j + 1 := ⟨k - 1, by omega⟩
    have hlt : i < s.length := by omega
    have hne : ((i : Int) == ((s.length : Nat) : Int)) = false := by rw [beq_eq_false_iff_ne]; omega
    rw [report_cut_L0, bif_decide (by omega), hne, cond_false, idx_get hlt, Option.bind_some, wrap_one _ (by omega), List.drop_eq_getElem_cons hlt, wGo]
    by_cases c : s[i] = 32
    · rw [if_pos c, c, show (((32 : UInt8).toNat : Int) == 32) = true from rfl, cond_true, hfi f i hf (by omega)]
      cases hw : ((s.take i).drop f == []) with
      | true => simp only [okW, List.all_cons, List.all_nil, hw, Bool.not_true, Bool.not_false, Bool.and_true, Bool.false_and, Bool.true_and, cond_true, cond_false]
      | false =>
        rw [cond_false, show (decide (0 ≤ (i : Int)) && decide ((i : Int) ≤ ((s.length : Nat) : Int)) && decide (0 ≤ (f : Int)) && decide ((f : Int) ≤ (i : Int))) = true by simp only [Bool.and_eq_true, decide_eq_true_eq]; omega, cond_true]
        simp only [Int.toNat_natCast]
        rw [bif_decide (by omega), ih k (i + 1) (i + 1) _ (by omega) (by omega) (by simp; omega) (by omega)]
        rw [show (s.take (i + 1)).drop (i + 1) = [] by rw [List.drop_of_length_le (by simp; omega)]]
        have : okW ((s.take i).drop f :: wGo [] (s.drop (i + 1))) = okW (wGo [] (s.drop (i + 1))) := by simp only [okW, List.all_cons, List.all_nil, hw, Bool.not_true, Bool.not_false, Bool.and_true, Bool.false_and, Bool.true_and, cond_true, cond_false]
        rw [this]
        cases okW (wGo [] (s.drop (i + 1))) with
        | false => rfl
        | true => simp
    · have c' : ((s[i].toNat : Int) == 32) = false := by
        rw [beq_eq_false_iff_ne]; intro e; apply c; apply UInt8.toNat_inj.1; show _ = 32; omega
      rw [if_neg c, c', cond_false, ih k f (i + 1) acc (by omega) (by omega) (by omega) (by omega)]
      rw [show (s.take (i + 1)).drop f = (s.take i).drop f ++ [s[i]] by rw [List.take_add_one, List.getElem?_eq_getElem hlt, Option.toList_some, List.drop_append_of_le_length (by simp; omega)]]
theorem cut_m (n : Nat) (s : List UInt8) (hs : s.length < 1000000) (hn : s.length + 10 < n) : m_report_cut n s = some (if okW (wordsL s) = true then (wordsL s, true) else ([], false)) := by
  obtain ⟨n, rfl⟩ : ∃ j, n = j + 1 := ⟨n - 1, by omega⟩
  have := cut_L n s hs s.length n 0 0 [] (by omega) (by omega) (by simp) (by omega)
  simp only [Int.natCast_zero, Int.ofNat_zero, List.take_zero, List.drop_nil, List.drop_zero, List.nil_append] at this
  rw [m_report_cut]
  refine (congrArg (fun o => Option.bind o _) this).trans ?_
  rw [← wordsL]
  cases okW (wordsL s) <;> rfl

theorem nums_ok {u : UnitS} {m : Int} : ∀ {ws : List (List UInt8)} {l : List Int}, numsW u m ws = some l → okW ws = true
  | [], _, _ => rfl
  | w :: ws, l, h => by
    rw [numsW] at h
    split at h
    · cases h
    · rename_i hw
      obtain ⟨l', h', _⟩ := Option.map_eq_some_iff.1 h
      have hne : w ≠ [] := fun e => hw (by rw [e, numU_nil]; decide)
      have := nums_ok h'
      simp only [okW, List.all_cons, Bool.and_eq_true] at this ⊢
      exact ⟨by simpa using hne, this⟩
theorem okW_cons {w : List UInt8} {ws : List (List UInt8)} (h : w ≠ []) (h2 : okW ws = true) : okW (w :: ws) = true := by
  simp only [okW, List.all_cons, Bool.and_eq_true] at h2 ⊢
  exact ⟨by simpa using h, h2⟩
theorem ag_ok {u : UnitS} {m : Int} {h : List UInt8} {ws : List (List UInt8)} {l : List Int} (hh : h ≠ []) (e : agN u m h ws = some l) : okW ws = true := by
  unfold agN at e
  split at e
  · split at e
    · rename_i g; subst g; exact okW_cons hh (nums_ok e)
    · cases e
  · cases e
theorem num_ok {h : List UInt8} {ws : List (List UInt8)} {lo hi i : Int} (hh : h ≠ []) (e : numN h lo hi ws = some i) : okW ws = true := by
  unfold numN at e
  split at e
  · split at e
    · rename_i a w g
      obtain ⟨rfl, _, g⟩ := g
      refine okW_cons hh (okW_cons ?_ rfl)
      rintro rfl
      have : (numT [] lo hi).2 = false := by
        simp only [numT, numGo]
        rw [show (decL 0 == []) = false from by decide]; rfl
      rw [this] at g; cases g
    · cases e
  · cases e
theorem out_ok {ws : List (List UInt8)} {i : Int} (e : outN ws = some i) : okW ws = true := by
  unfold outN at e
  split at e
  · rename_i h w
    split at e
    · rename_i g
      subst g
      refine okW_cons (by decide) (okW_cons ?_ rfl)
      rintro rfl
      rw [if_neg (by decide), if_neg (by decide), if_neg (by decide)] at e
      cases e
    · cases e
  · cases e
theorem res_ok {u : UnitS} {m : Int} {ws : List (List UInt8)} {r : S_api_Result} (e : resN u m ws = some r) : okW ws = true := by
  unfold resN at e
  split at e
  · rename_i a x r'
    split at e
    · rename_i g
      obtain ⟨rfl, g⟩ := g
      refine okW_cons (by decide) (okW_cons (by rcases g with rfl | rfl <;> decide) ?_)
      split at e
      · rfl
      · rename_i b r''
        obtain ⟨l, e1, _⟩ := Option.map_eq_some_iff.1 e
        exact ag_ok (by decide) e1
    · cases e
  · cases e
theorem put_ok {u : UnitS} {m : Int} {v v' : S_api_Verdict} {ws : List (List UInt8)} {k : Nat} (e : putR u m v ws k = some v') : okW ws = true := by
  obtain rfl | rfl | rfl | rfl | rfl | ⟨j, rfl⟩ : k = 0 ∨ k = 1 ∨ k = 2 ∨ k = 3 ∨ k = 4 ∨ ∃ j, k = j + 5 := by
    rcases Nat.lt_or_ge k 5 with h | h
    · omega
    · exact .inr (.inr (.inr (.inr (.inr ⟨k - 5, by omega⟩))))
  all_goals rw [putR] at e
  · obtain ⟨i, e1, _⟩ := Option.map_eq_some_iff.1 e; exact out_ok e1
  · obtain ⟨i, e1, _⟩ := Option.map_eq_some_iff.1 e; exact num_ok (by decide) e1
  · obtain ⟨i, e1, _⟩ := Option.map_eq_some_iff.1 e; exact num_ok (by decide) e1
  · obtain ⟨i, e1, _⟩ := Option.map_eq_some_iff.1 e; exact ag_ok (by decide) e1
  · obtain ⟨i, e1, _⟩ := Option.map_eq_some_iff.1 e; exact ag_ok (by decide) e1
  · split at e
    · obtain ⟨i, e1, _⟩ := Option.map_eq_some_iff.1 e; exact res_ok e1
    · cases e

theorem rpath_L (n : Nat) (u : UnitS) (m : Int) (ws : List (List UInt8)) (hw : ws.length < 1000000) {k : Nat} (hk : ws.length < k) : report_reader_path_L0 (n + 1) ws u.mod u.init u.regs u.code m k 0 [] = some (match numsW u m ws with | some l => .out l | none => .ret ([], false)) := by
  have := loop_list0 ws (fun k i s => report_reader_path_L0 (n + 1) ws u.mod u.init u.regs u.code m k (i : Int) s) (fun l s => some (match numsW u m l with | some l' => .out (s ++ l') | none => .ret ([], false))) (fun i s => s.length = i) (k := k) (s := []) (by omega) rfl (fun k s _ => by rw [report_reader_path_L0, bif_not (by omega)]; simp [numsW]) (fun k i s x hi hx hs ih => by
    rw [report_reader_path_L0, bif_decide (by omega), idx_some hx, Option.bind_some, wrap_one i (by omega)]
    rw [show (⟨u.mod, u.init, u.regs, u.code⟩ : UnitS) = u from rfl, m_machine_Number, Option.bind_some, numsW]
    by_cases c : numU u m x < 0
    · rw [bif_decide c, if_pos c]
    · rw [bif_not c, bif_decide (by omega), if_neg c, ih _ (by simp [hs])]
      cases numsW u m (ws.drop (i + 1)) with
      | none => rfl
      | some l => simp)
  refine this.trans ?_
  cases numsW u m ws with
  | none => rfl
  | some l => simp
def rpO (o : Option (List Int)) : List Int × Bool := match o with | some l => (l, true) | none => ([], false)
theorem rpath_m (n : Nat) (u : UnitS) (m : Int) (ws : List (List UInt8)) (hw : ws.length < 1000000) (hn : ws.length + 10 < n) (a : Int) (b c : List Int) (d : List S_api_Result) (e f : Int) : m_report_reader_path n ws u.mod u.init u.regs u.code m a b c d e f = some (rpO (numsW u m ws)) := by
  obtain ⟨n, rfl⟩ : ∃ j, n = j + 2 := ⟨n - 2, by omega⟩
  rw [m_report_reader_path, rpath_L n u m ws hw (by omega), Option.bind_some]
  cases numsW u m ws <;> rfl
theorem outcome_m (n : Nat) (ws : List (List UInt8)) (hn : 10 < n) : m_report_outcome n (kO :: ws) = some (match outN (kO :: ws) with | some i => (i, true) | none => (0, false)) := by
  obtain ⟨n, rfl⟩ : ∃ j, n = j + 6 := ⟨n - 6, by omega⟩
  show (report_outcome_L0 (n + 5) (kO :: ws) [[], outT 1, outT 2, outT 3] (n + 5) 0).bind _ = _
  match ws with
  | [] => rfl
  | a :: b :: r =>
    have hb : ((((kO :: a :: b :: r).length : Nat) : Int) == 2) = false := by rw [beq_eq_false_iff_ne]; simp; omega
    have st : ∀ k (i : Nat), i < 4 → report_outcome_L0 (n + 5) (kO :: a :: b :: r) [[], outT 1, outT 2, outT 3] (k + 1) (i : Int) = report_outcome_L0 (n + 5) (kO :: a :: b :: r) [[], outT 1, outT 2, outT 3] k ((i + 1 : Nat) : Int) := fun k i hi => by
      rw [report_outcome_L0, bif_decide (by simp; omega), idx_get (by simpa using hi), Option.bind_some, wrap_one i (by omega), hb, cond_false]
      cases decide (0 < (i : Int)) <;> rfl
    rw [show (0 : Int) = ((0 : Nat) : Int) from rfl, st (n + 4) 0 (by omega), st (n + 3) 1 (by omega), st (n + 2) 2 (by omega), st (n + 1) 3 (by omega), report_outcome_L0, bif_not (by simp)]
    rfl
  | [w] =>
    have hO : outN [kO, w] = if w = outT 1 then some 1 else if w = outT 2 then some 2 else if w = outT 3 then some 3 else none := rfl
    rw [hO]
    have st : ∀ k (i : Nat) (hi : i < 4), 0 < i → report_outcome_L0 (n + 5) [kO, w] [[], outT 1, outT 2, outT 3] (k + 1) (i : Int) = bif (w == [[], outT 1, outT 2, outT 3][i]) then some (.ret ((i : Int), true)) else report_outcome_L0 (n + 5) [kO, w] [[], outT 1, outT 2, outT 3] k ((i + 1 : Nat) : Int) := fun k i hi h0 => by
      rw [report_outcome_L0, bif_decide (by simp; omega), idx_get (by simpa using hi), Option.bind_some, wrap_one i (by omega), bif_decide (by omega)]
      rfl
    have s0 : report_outcome_L0 (n + 5) [kO, w] [[], outT 1, outT 2, outT 3] (n + 5) 0 = report_outcome_L0 (n + 5) [kO, w] [[], outT 1, outT 2, outT 3] (n + 4) ((1 : Nat) : Int) := rfl
    rw [s0, st (n + 3) 1 (by omega) (by omega), st (n + 2) 2 (by omega) (by omega), st (n + 1) 3 (by omega) (by omega), report_outcome_L0, bif_not (by simp)]
    simp only [beq_dec, List.getElem_cons_succ, List.getElem_cons_zero]
    by_cases c1 : w = outT 1
    · rw [bif_decide c1, if_pos c1]; rfl
    rw [bif_not c1, if_neg c1]
    by_cases c2 : w = outT 2
    · rw [bif_decide c2, if_pos c2]; rfl
    rw [bif_not c2, if_neg c2]
    by_cases c3 : w = outT 3
    · rw [bif_decide c3, if_pos c3]; rfl
    rw [bif_not c3, if_neg c3]
    rfl
end Go.Proofs.Ytmaklniljnbokaa
end

section
namespace Go.Proofs.Ytmaklniljnbokaa
set_option linter.unusedVariables false
set_option linter.unusedSimpArgs false
set_option maxRecDepth 100000

theorem rresult_m (n : Nat) (u : UnitS) (m : Int) (ws : List (List UInt8)) (hw : ws.length < 1000000) (hn : ws.length + 20 < n) (a : Int) (b c : List Int) (R : List S_api_Result) (e f : Int) (hR : R.length < 1000000) (rest : List (List UInt8)) (hws : ws = kL :: rest) : ∃ x, m_report_reader_result n ws u.mod u.init u.regs u.code m a b c R e f = some x ∧ x.1 = (decide (R.length < 8) && (resN u m ws).isSome) ∧ (R.length < 8 → ∀ y, resN u m ws = some y → x.2 = R ++ [y]) := by
  obtain ⟨n, rfl⟩ : ∃ j, n = j + 1 := ⟨n - 1, by omega⟩
  subst hws
  have hm : (R.length + 1) * 33 ≤ 140737488355328 := by omega
  rw [m_report_reader_result]
  match rest with
  | [] =>
    rw [bif_decide (by simp)]
    exact ⟨_, rfl, by simp [resN], fun _ y e => by cases e⟩
  | x :: r =>
    rw [bif_not (by simp; omega)]
    have i1 : idx (kL :: x :: r) 1 = some x := rfl
    simp only [i1, Option.bind_some, beq_dec]
    have hlr : (8 ≤ ((R.length : Nat) : Int)) ↔ ¬ R.length < 8 := by omega
    by_cases h8 : R.length < 8
    rotate_left
    · have h8' : 8 ≤ ((R.length : Nat) : Int) := hlr.2 h8
      rw [decide_eq_false h8, bif_decide h8']
      by_cases c1 : x = kH
      · rw [bif_decide c1]; exact ⟨_, rfl, rfl, fun h => absurd h h8⟩
      · rw [bif_not c1]
        by_cases c2 : x = kF
        · rw [bif_decide c2]; exact ⟨_, rfl, rfl, fun h => absurd h h8⟩
        · rw [bif_not c2]; exact ⟨_, rfl, rfl, fun h => absurd h h8⟩
    have h8' : ¬ 8 ≤ ((R.length : Nat) : Int) := fun h => hlr.1 h h8
    rw [decide_eq_true h8, bif_not h8']
    have key : (x = kH ∨ x = kF) → ∃ y : Bool × List S_api_Result, (bif decide (2 < (((kL :: x :: r).length : Nat) : Int)) then (bif (decide (0 ≤ 3) && decide (3 ≤ (((kL :: x :: r).length : Nat) : Int))) then ((m_report_reader_path n (List.drop ((3 : Int).toNat) (List.take (kL :: x :: r).length (kL :: x :: r))) u.mod u.init u.regs u.code m a b c R e f).bind fun y9 => (bif y9.2 then ((idx (kL :: x :: r) 2).bind fun x12 => (bif decide ((R.length + 1) * 33 ≤ 140737488355328) then (some (decide (x12 = kB), (R ++ ([(⟨decide (x = kH), true, y9.1⟩ : S_api_Result)] : List S_api_Result)))) else none)) else (bif decide ((R.length + 1) * 33 ≤ 140737488355328) then (some (false, (R ++ ([(⟨decide (x = kH), true, y9.1⟩ : S_api_Result)] : List S_api_Result)))) else none))) else none) else (bif decide ((R.length + 1) * 33 ≤ 140737488355328) then (some (true, (R ++ ([(⟨decide (x = kH), false, ([] : List Int)⟩ : S_api_Result)] : List S_api_Result)))) else none)) = some y ∧ y.1 = (true && (resN u m (kL :: x :: r)).isSome) ∧ (R.length < 8 → ∀ z, resN u m (kL :: x :: r) = some z → y.2 = R ++ [z]) := by
      intro hx
      match r with
      | [] =>
        rw [bif_not (by simp), bif_decide hm]
        have hq : resN u m [kL, x] = some ⟨decide (x = kH), false, []⟩ := by rw [resN, if_pos ⟨rfl, hx⟩]
        rw [hq]
        exact ⟨_, rfl, rfl, fun _ z e => by cases e; rfl⟩
      | w :: r' =>
        have hq : resN u m (kL :: x :: w :: r') = (agN u m kB (w :: r')).map fun l => ⟨decide (x = kH), true, l⟩ := by rw [resN, if_pos ⟨rfl, hx⟩]
        have hb : (decide ((0 : Nat) ≤ 3) && decide ((3 : Int) ≤ (((kL :: x :: w :: r').length : Nat) : Int))) = true := by simp; omega
        have i2 : idx (kL :: x :: w :: r') 2 = some w := rfl
        rw [bif_decide (by simp; omega), hb, cond_true, i2, show ((3 : Int)).toNat = 3 from rfl, List.take_length]
        simp only [List.drop_succ_cons, List.drop_zero]
        simp only [List.length_cons] at hw hn
        rw [rpath_m n u m r' (by omega) (by omega), Option.bind_some, hq]
        simp only [agN]
        cases hs : numsW u m r' with
        | none =>
          simp only [rpO, cond_false]
          rw [bif_decide hm]
          refine ⟨_, rfl, ?_, fun _ z e => ?_⟩
          · simp
          · simp at e
        | some l =>
          simp only [rpO, cond_true, Option.bind_some]
          rw [bif_decide hm]
          refine ⟨_, rfl, ?_, fun _ z e => ?_⟩
          · by_cases cw : w = kB
            · simp [cw]
            · simp [cw]
          · by_cases cw : w = kB
            · rw [if_pos cw] at e; cases e; rfl
            · rw [if_neg cw] at e; cases e
    by_cases c1 : x = kH
    · rw [bif_decide c1]; exact key (.inl c1)
    rw [bif_not c1]
    by_cases c2 : x = kF
    · rw [bif_decide c2]; exact key (.inr c2)
    rw [bif_not c2]
    have hq : resN u m (kL :: x :: r) = none := by
      cases r <;> rw [resN, if_neg (by rintro ⟨_, h⟩; exact h.elim c1 c2)]
    rw [hq]
    exact ⟨_, rfl, rfl, fun _ z e => by cases e⟩

def nameK : Nat → List UInt8
  | 0 => kO
  | 1 => kS
  | 2 => kE
  | 3 => kP
  | 4 => kC
  | _ => kL
theorem five (k : Nat) : k = 0 ∨ k = 1 ∨ k = 2 ∨ k = 3 ∨ k = 4 ∨ ∃ j, k = j + 5 := by
  rcases Nat.lt_or_ge k 5 with h | h
  · omega
  · exact .inr (.inr (.inr (.inr (.inr ⟨k - 5, by omega⟩))))
theorem ag_head {u : UnitS} {m : Int} {h a : List UInt8} {r : List (List UInt8)} {l : List Int} (e : agN u m h (a :: r) = some l) : a = h := by
  rw [agN] at e; split at e
  · assumption
  · cases e
theorem num_head {h a : List UInt8} {r : List (List UInt8)} {lo hi i : Int} (e : numN h lo hi (a :: r) = some i) : a = h := by
  unfold numN at e; split at e
  · rename_i a' w g; injection g with g1 g2; subst g1
    split at e
    · rename_i q; exact q.1
    · cases e
  · cases e
theorem out_head {a : List UInt8} {r : List (List UInt8)} {i : Int} (e : outN (a :: r) = some i) : a = kO := by
  unfold outN at e; split at e
  · rename_i a' w g; injection g with g1 g2; subst g1
    split at e
    · assumption
    · cases e
  · cases e
theorem res_head {u : UnitS} {m : Int} {a : List UInt8} {r : List (List UInt8)} {y : S_api_Result} (e : resN u m (a :: r) = some y) : a = kL := by
  unfold resN at e; split at e
  · rename_i a' x r' g; injection g with g1 g2; subst g1
    split at e
    · rename_i q; exact q.1
    · cases e
  · cases e
theorem put_head {u : UnitS} {m : Int} {v v' : S_api_Verdict} {a : List UInt8} {r : List (List UInt8)} {k : Nat} (e : putR u m v (a :: r) k = some v') : a = nameK k := by
  obtain rfl | rfl | rfl | rfl | rfl | ⟨j, rfl⟩ := five k
  all_goals rw [putR] at e
  · obtain ⟨i, e1, _⟩ := Option.map_eq_some_iff.1 e; exact out_head e1
  · obtain ⟨i, e1, _⟩ := Option.map_eq_some_iff.1 e; exact num_head e1
  · obtain ⟨i, e1, _⟩ := Option.map_eq_some_iff.1 e; exact num_head e1
  · obtain ⟨i, e1, _⟩ := Option.map_eq_some_iff.1 e; exact ag_head e1
  · obtain ⟨i, e1, _⟩ := Option.map_eq_some_iff.1 e; exact ag_head e1
  · split at e
    · obtain ⟨i, e1, _⟩ := Option.map_eq_some_iff.1 e; exact res_head e1
    · cases e
theorem numR_N (h : List UInt8) (r : List (List UInt8)) (lo hi : Int) : (numR (h :: r) lo hi).2 = (numN h lo hi (h :: r)).isSome ∧ ∀ i, numN h lo hi (h :: r) = some i → i = (numR (h :: r) lo hi).1 := by
  match r with
  | [] => exact ⟨rfl, fun i e => by cases e⟩
  | a :: b :: r => exact ⟨rfl, fun i e => by cases e⟩
  | [w] =>
    show (if w.length ≤ 8 then numT w lo hi else (0, false)).2 = (if h = h ∧ w.length ≤ 8 ∧ (numT w lo hi).2 = true then some (numT w lo hi).1 else none).isSome ∧ ∀ i, (if h = h ∧ w.length ≤ 8 ∧ (numT w lo hi).2 = true then some (numT w lo hi).1 else none) = some i → i = (if w.length ≤ 8 then numT w lo hi else (0, false)).1
    by_cases c : w.length ≤ 8
    · by_cases d : (numT w lo hi).2 = true
      · simp [c, d]
      · simp [c, d]
    · simp [c]
def PutsP (u : UnitS) (m : Int) (v : S_api_Verdict) (s : List UInt8) (k : Nat) (x : Bool × Int × List Int × List Int × List S_api_Result × Int × Int) : Prop := x.1 = (putR u m v (wordsL s) k).isSome ∧ ∀ v', putR u m v (wordsL s) k = some v' → v' = ⟨x.2.1, x.2.2.1, x.2.2.2.1, x.2.2.2.2.1, x.2.2.2.2.2.1, x.2.2.2.2.2.2⟩
theorem wGo_len : ∀ (s w : List UInt8), (wGo w s).length ≤ s.length + 1
  | [], w => by simp [wGo]
  | c :: s, w => by
    rw [wGo]
    split
    · have := wGo_len s []; simp; omega
    · have := wGo_len s (w ++ [c]); simp; omega
theorem line_m (n : Nat) (u : UnitS) (m : Int) (v : S_api_Verdict) (s : List UInt8) (k : Nat) (hs : s.length < 500000) (hn : s.length + 100 < n) (hR : v.f_Results.length < 1000000) : ∃ x, m_report_reader_line n s (k : Int) u.mod u.init u.regs u.code m v.f_Outcome v.f_Prefix v.f_Cycle v.f_Results v.f_States v.f_Edges = some x ∧ PutsP u m v s k x := by
  obtain ⟨n, rfl⟩ : ∃ j, n = j + 2 := ⟨n - 2, by omega⟩
  rw [m_report_reader_line, cut_m (n + 1) s (by omega) (by omega), Option.bind_some]
  unfold PutsP
  have hwl := wGo_len s []
  rw [← wordsL] at hwl
  have hne := words_ne s
  have hpo := fun v' => @put_ok u m v v' (wordsL s) k
  have hph := fun v' a r => @put_head u m v v' a r k
  generalize wordsL s = ws at *
  by_cases ho : okW ws = true
  rotate_left
  · rw [if_neg ho]
    have hq : putR u m v ws k = none := by
      cases h : putR u m v ws k with
      | none => rfl
      | some v' => exact absurd (hpo v' h) ho
    rw [hq]
    exact ⟨_, rfl, rfl, fun v' e => by cases e⟩
  rw [if_pos ho, cond_true]
  cases ws with
  | nil => exact absurd rfl hne
  | cons h r =>
  have i0 : idx (h :: r) 0 = some h := rfl
  have iN : idx [kO, kS, kE, kP, kC, kL] (if 5 < (k : Int) then 5 else (k : Int)) = some (nameK k) := by
    obtain rfl | rfl | rfl | rfl | rfl | ⟨j, rfl⟩ := five k
    · rfl
    · rfl
    · rfl
    · rfl
    · rfl
    · by_cases c : 5 < ((j + 5 : Nat) : Int)
      · rw [if_pos c]; rfl
      · rw [if_neg c]
        have : j = 0 := by omega
        subst this; rfl
  simp only [i0, Option.bind_some, iN, beq_dec]
  by_cases hh : h = nameK k
  rotate_left
  · rw [bif_not hh]
    have hq : putR u m v (h :: r) k = none := by
      cases g : putR u m v (h :: r) k with
      | none => rfl
      | some v' => exact absurd (hph v' h r g) hh
    rw [hq]
    exact ⟨_, rfl, rfl, fun v' e => by cases e⟩
  rw [bif_decide hh]
  clear hph hpo
  obtain rfl | rfl | rfl | rfl | rfl | ⟨j, rfl⟩ := five k
  · obtain rfl : h = kO := hh
    rw [bif_decide rfl, outcome_m (n + 1) r (by omega), Option.bind_some, putR]
    refine ⟨_, rfl, ?_⟩
    cases outN (kO :: r) with
    | none => exact ⟨rfl, fun v' e => by cases e⟩
    | some i => exact ⟨rfl, fun v' e => (Option.some.inj e).symm⟩
  · obtain rfl : h = kS := hh
    obtain ⟨g1, g2⟩ := numR_N kS r 1 100000
    rw [bif_not (by decide), bif_decide rfl, m_report_number, Option.bind_some, putR]
    refine ⟨_, rfl, ?_, fun v' e => ?_⟩
    · rw [Option.isSome_map]; exact g1
    · obtain ⟨i, e1, rfl⟩ := Option.map_eq_some_iff.1 e
      rw [g2 i e1]
  · obtain rfl : h = kE := hh
    obtain ⟨g1, g2⟩ := numR_N kE r 0 10000000
    rw [bif_not (by decide), bif_not (by decide), bif_decide rfl, m_report_number, Option.bind_some, putR]
    refine ⟨_, rfl, ?_, fun v' e => ?_⟩
    · rw [Option.isSome_map]; exact g1
    · obtain ⟨i, e1, rfl⟩ := Option.map_eq_some_iff.1 e
      rw [g2 i e1]
  · obtain rfl : h = kP := hh
    have hb : (decide ((0 : Nat) ≤ 1) && decide ((1 : Int) ≤ (((kP :: r).length : Nat) : Int))) = true := by simp; omega
    rw [bif_not (by decide), bif_not (by decide), bif_not (by decide), bif_decide rfl, hb, cond_true, show ((1 : Int)).toNat = 1 from rfl, List.take_length]
    simp only [List.drop_succ_cons, List.drop_zero]
    simp only [List.length_cons] at hwl
    rw [rpath_m (n + 1) u m r (by omega) (by omega), Option.bind_some, putR, agN, if_pos rfl]
    refine ⟨_, rfl, ?_⟩
    cases numsW u m r with
    | none => exact ⟨rfl, fun v' e => by cases e⟩
    | some l => exact ⟨rfl, fun v' e => (Option.some.inj e).symm⟩
  · obtain rfl : h = kC := hh
    have hb : (decide ((0 : Nat) ≤ 1) && decide ((1 : Int) ≤ (((kC :: r).length : Nat) : Int))) = true := by simp; omega
    rw [bif_not (by decide), bif_not (by decide), bif_not (by decide), bif_not (by decide), bif_decide rfl, hb, cond_true, show ((1 : Int)).toNat = 1 from rfl, List.take_length]
    simp only [List.drop_succ_cons, List.drop_zero]
    simp only [List.length_cons] at hwl
    rw [rpath_m (n + 1) u m r (by omega) (by omega), Option.bind_some, putR, agN, if_pos rfl]
    refine ⟨_, rfl, ?_⟩
    cases numsW u m r with
    | none => exact ⟨rfl, fun v' e => by cases e⟩
    | some l => exact ⟨rfl, fun v' e => (Option.some.inj e).symm⟩
  · obtain rfl : h = kL := hh
    rw [bif_not (by decide), bif_not (by decide), bif_not (by decide), bif_not (by decide), bif_not (by decide), bif_decide rfl]
    obtain ⟨x, e1, e2, e3⟩ := rresult_m (n + 1) u m (kL :: r) (by omega) (by omega) v.f_Outcome v.f_Prefix v.f_Cycle v.f_Results v.f_States v.f_Edges hR r rfl
    rw [e1, Option.bind_some, putR]
    refine ⟨_, rfl, ?_⟩
    by_cases h8 : v.f_Results.length < 8
    · rw [if_pos h8]
      refine ⟨?_, fun v' e => ?_⟩
      · rw [Option.isSome_map, e2, decide_eq_true h8, Bool.true_and]
      · obtain ⟨y, e4, rfl⟩ := Option.map_eq_some_iff.1 e
        rw [e3 h8 y e4]
    · rw [if_neg h8]
      refine ⟨?_, fun v' e => by cases e⟩
      rw [e2, decide_eq_false h8]; rfl
def postP (s : List UInt8) (o : LR (Int × Int × Int × List Int × List Int × Int × Int × List S_api_Result) (S_api_Verdict × Int × Int)) : S_api_Verdict × Int × Int := match o with
  | .out (x26, x27, x28, x29, x30, x31, x32, x33) => if x27 < ((s.length : Nat) : Int) then (v0V, 8, IntKind.i64.wrap (x26 + 1)) else if x26 < 5 then (v0V, 8, IntKind.i64.wrap (x26 + 1)) else (⟨x28, x29, x30, x33, x31, x32⟩, 0, 0)
  | .ret v => v
theorem rparse_L (n : Nat) (u : UnitS) (m : Int) (s : List UInt8) (hs : s.length < 400000) (hn : s.length + 300 < n) : ∀ (j k f i cnt : Nat) (v : S_api_Verdict), i + j = s.length → j < k → f ≤ i → cnt ≤ i → Inv cnt v → ∃ o, report_Parse_L0 n u m s k (cnt : Int) (f : Int) (i : Int) v.f_Outcome v.f_Prefix v.f_Cycle v.f_States v.f_Edges v.f_Results = some o ∧ postP s o = gPar u m ((s.take i).drop f) (s.drop i) cnt v := by
  intro j
  induction j with
  | zero =>
    intro k f i cnt v h1 h2 h3 h4 h5
    obtain ⟨k, rfl⟩ : ∃ j, k = j + 1 := ⟨k - 1, by omega⟩
    obtain rfl : i = s.length := by omega
    rw [report_Parse_L0, bif_not (by omega), List.drop_length, gPar, List.take_length]
    refine ⟨_, rfl, ?_⟩
    show (if (f : Int) < ((s.length : Nat) : Int) then _ else if (cnt : Int) < 5 then _ else _) = _
    by_cases c : f < s.length
    · rw [if_pos (by omega), if_neg (by rintro ⟨e, _⟩; have := congrArg List.length e; simp at this; omega), wrap_one _ (by omega)]; rfl
    · have hnil : s.drop f = [] := List.drop_of_length_le (by omega)
      rw [if_neg (by omega)]
      by_cases c5 : 5 ≤ cnt
      · rw [if_neg (by omega), if_pos ⟨hnil, c5⟩]
      · rw [if_pos (by omega), if_neg (fun h => c5 h.2), wrap_one _ (by omega)]; rfl
  | succ j ih =>
    intro k f i cnt v h1 h2 h3 h4 h5
    obtain ⟨k, rfl⟩ : ∃ j, k = j + 1 := ⟨k - 1, by omega⟩
    have hlt : i < s.length := by omega
    rw [report_Parse_L0, bif_decide (by omega), idx_get hlt, Option.bind_some, wrap_one _ (by omega), wrap_one _ (by omega), List.drop_eq_getElem_cons hlt, gPar]
    by_cases c : s[i] = 10
    · rw [if_pos c, c, show (((10 : UInt8).toNat : Int) != 10) = false from rfl, cond_false]
      rw [show (decide (0 ≤ (i : Int)) && decide ((i : Int) ≤ ((s.length : Nat) : Int)) && decide (0 ≤ (f : Int)) && decide ((f : Int) ≤ (i : Int))) = true by simp only [Bool.and_eq_true, decide_eq_true_eq]; omega, cond_true]
      simp only [Int.toNat_natCast]
      have hRl : v.f_Results.length < 1000000 := by
        rcases Nat.lt_or_ge cnt 5 with g | g
        · rw [h5.2.2 g]; simp
        · have := h5.2.1 g; omega
      obtain ⟨x, hx, hp1, hp2⟩ := line_m n u m v ((s.take i).drop f) cnt (by simp; omega) (by simp; omega) hRl
      rw [hx, Option.bind_some, hp1]
      cases hq : putR u m v (wordsL ((s.take i).drop f)) cnt with
      | none => exact ⟨_, rfl, rfl⟩
      | some v' =>
        have hv := hp2 v' hq
        simp only [Option.isSome_some, cond_true]
        obtain ⟨o, ho1, ho2⟩ := ih k (i + 1) (i + 1) (cnt + 1) v' (by omega) (by omega) (by omega) (by omega) (inv_put h5 hq)
        rw [show (s.take (i + 1)).drop (i + 1) = [] by rw [List.drop_of_length_le (by simp; omega)]] at ho2
        refine ⟨o, ?_, ho2⟩
        rw [hv] at ho1
        exact ho1
    · have c' : ((s[i].toNat : Int) != 10) = true := by
        rw [bne_iff_ne]; intro e; apply c; apply UInt8.toNat_inj.1; show _ = 10; omega
      rw [if_neg c, c', cond_true]
      obtain ⟨o, ho1, ho2⟩ := ih k f (i + 1) cnt v (by omega) (by omega) (by omega) (by omega) h5
      rw [show (s.take (i + 1)).drop f = (s.take i).drop f ++ [s[i]] by rw [List.take_add_one, List.getElem?_eq_getElem hlt, Option.toList_some, List.drop_append_of_le_length (by simp; omega)]] at ho2
      exact ⟨o, ho1, ho2⟩
theorem rparse_m (n : Nat) (u : UnitS) (m : Int) (s : List UInt8) (hs : s.length < 400000) (hn : s.length + 310 < n) : m_report_Parse n u m s = some (parseR u m s) := by
  obtain ⟨n, rfl⟩ : ∃ j, n = j + 1 := ⟨n - 1, by omega⟩
  obtain ⟨o, h1, h2⟩ := rparse_L n u m s hs (by omega) s.length n 0 0 0 v0V (by omega) (by omega) (by omega) (by omega) ⟨fun _ => rfl, fun h => by omega, fun _ => rfl⟩
  rw [m_report_Parse]
  have h1' : report_Parse_L0 n u m s n 0 0 0 0 [] [] 0 0 [] = some o := h1
  rw [List.take_zero, List.drop_nil, List.drop_zero] at h2
  rw [h1', Option.bind_some, parseR, ← h2]
  cases o with
  | ret v => rfl
  | out x =>
    obtain ⟨x26, x27, x28, x29, x30, x31, x32, x33⟩ := x
    show (bif decide (x27 < ((s.length : Nat) : Int)) then _ else bif decide (x26 < 5) then _ else _) = some (if x27 < ((s.length : Nat) : Int) then _ else if x26 < 5 then _ else _)
    by_cases c : x27 < ((s.length : Nat) : Int)
    · rw [bif_decide c, if_pos c]; rfl
    · rw [bif_not c, if_neg c]
      by_cases c : x26 < 5
      · rw [bif_decide c, if_pos c]; rfl
      · rw [bif_not c, if_neg c]
end Go.Proofs.Ytmaklniljnbokaa
end

section
namespace Go.Proofs.Ytmaklniljnbokaa
set_option linter.unusedVariables false
set_option maxRecDepth 100000
theorem known24 : m_law24_known 20000 = some true := by decide +kernel
end Go.Proofs.Ytmaklniljnbokaa
end

section
namespace Go.Proofs.Ytmaklniljnbokaa
set_option linter.unusedVariables false
set_option linter.unusedSimpArgs false
set_option maxRecDepth 100000

theorem ints_m (n : Nat) (a b : List Int) (hn : a.length + 5 < n) (hl : a.length < 1000000) : m_ref07_Ints n a b = some (decide (a = b)) := by
  obtain ⟨n, rfl⟩ : ∃ j, n = j + 1 := ⟨n - 1, by omega⟩
  rw [m_ref07_Ints]
  by_cases c : a.length = b.length
  rotate_left
  · have : (((a.length : Nat) : Int) != ((b.length : Nat) : Int)) = true := by rw [bne_iff_ne]; omega
    rw [this, cond_true, decide_eq_false (fun e => c (by rw [e]))]
  have h0 : (((a.length : Nat) : Int) != ((b.length : Nat) : Int)) = false := by rw [c]; simp
  have := loop_list0 a (fun k i (_ : Unit) => ref07_Ints_L0 n a b k (i : Int)) (fun l (_ : Unit) => if l = b.drop (a.length - l.length) then some (.out ()) else some (.ret false)) (fun i _ => True) (k := n) (s := ()) (by omega) trivial (fun k s _ => by
    rw [ref07_Ints_L0, bif_not (by omega), if_pos (by simp [c])]) (fun k i s x hi hx _ ih => by
    have hib : i < b.length := by omega
    rw [ref07_Ints_L0, bif_decide (by omega), idx_some hx, Option.bind_some, idx_get hib, Option.bind_some, wrap_one i (by omega), ih () trivial]
    have e1 : a.length - (x :: a.drop (i + 1)).length = i := by simp; omega
    have e2 : a.length - (a.drop (i + 1)).length = i + 1 := by simp; omega
    rw [e1, e2, List.drop_eq_getElem_cons hib]
    by_cases cx : x = b[i]
    · subst cx
      rw [show (b[i] != b[i]) = false by simp, cond_false]
      simp only [List.cons.injEq, true_and]
    · rw [show (x != b[i]) = true by simpa using cx, cond_true, if_neg (by intro e; injection e with e _; exact cx e)])
  rw [h0, cond_false]
  refine (congrArg (fun o => Option.bind o _) this).trans ?_
  rw [Nat.sub_self, List.drop_zero]
  by_cases e : a = b
  · rw [if_pos e, decide_eq_true e]; rfl
  · rw [if_neg e, decide_eq_false e]; rfl
/-- Lengths of a verdict. -/
def lensV (v : S_api_Verdict) (b : Nat) : Prop := v.f_Prefix.length ≤ b ∧ v.f_Cycle.length ≤ b ∧ v.f_Results.length ≤ b ∧ ∀ r ∈ v.f_Results, r.f_Path.length ≤ b
theorem same21_m (n : Nat) (l : List S_api_Result) (b : Nat) (h : l.length ≤ b) (h2 : ∀ r ∈ l, r.f_Path.length ≤ b) (hb : b < 1000000) (hn : b + 20 < n) : m_ref21_Same n l l = some true := by
  obtain ⟨n, rfl⟩ : ∃ j, n = j + 1 := ⟨n - 1, by omega⟩
  have := all_list l (fun k i => ref21_Same_L0 n l l k (i : Int)) (fun _ => true) (fun k => by rw [ref21_Same_L0, bif_not (by omega)]) (fun k i x hi hx => by
    have hm := h2 x (List.mem_of_getElem? hx)
    rw [ref21_Same_L0, bif_decide (by omega)]
    simp only [idx_some hx, Option.bind_some, beq_self_eq_true, cond_true, ints_m n x.f_Path x.f_Path (by omega) (by omega), decide_true, wrap_one i (by omega)]) (k := n) (by omega)
  rw [m_ref21_Same, show (((l.length : Nat) : Int) != ((l.length : Nat) : Int)) = false by simp, cond_false]
  have ha : l.all (fun _ => true) = true := by simp
  rw [ha, cond_true] at this
  exact (congrArg (fun o => Option.bind o _) this).trans rfl
theorem same23_m (n : Nat) (v : S_api_Verdict) (b : Nat) (h : lensV v b) (hb : b < 1000000) (hn : b + 40 < n) : m_ref23_Same n v v = some true := by
  obtain ⟨n, rfl⟩ : ∃ j, n = j + 1 := ⟨n - 1, by omega⟩
  obtain ⟨h1, h2, h3, h4⟩ := h
  simp only [m_ref23_Same, beq_self_eq_true, cond_true, ints_m n v.f_Prefix v.f_Prefix (by omega) (by omega), ints_m n v.f_Cycle v.f_Cycle (by omega) (by omega), same21_m n v.f_Results b h3 h4 hb (by omega), decide_true, Option.bind_some]

theorem nums_len {u : UnitS} {m : Int} : ∀ {ws : List (List UInt8)} {l : List Int}, numsW u m ws = some l → l.length = ws.length
  | [], l, h => by rw [numsW] at h; cases h; rfl
  | w :: ws, l, h => by
    rw [numsW] at h
    split at h
    · cases h
    · obtain ⟨l', h', rfl⟩ := Option.map_eq_some_iff.1 h
      rw [List.length_cons, List.length_cons, nums_len h']
theorem ag_len {u : UnitS} {m : Int} {h : List UInt8} {ws : List (List UInt8)} {l : List Int} (e : agN u m h ws = some l) : l.length ≤ ws.length := by
  unfold agN at e
  split at e
  · split at e
    · rw [nums_len e]; simp
    · cases e
  · cases e
theorem res_len {u : UnitS} {m : Int} {ws : List (List UInt8)} {r : S_api_Result} (e : resN u m ws = some r) : r.f_Path.length ≤ ws.length := by
  unfold resN at e
  split at e
  · split at e
    · split at e
      · cases e; simp
      · obtain ⟨l, e1, rfl⟩ := Option.map_eq_some_iff.1 e
        have := ag_len e1
        simp at this ⊢; omega
    · cases e
  · cases e
theorem put_lens {u : UnitS} {m : Int} {v v' : S_api_Verdict} {ws : List (List UInt8)} {k b : Nat} (e : putR u m v ws k = some v') (h : lensV v b) (hw : ws.length ≤ b) (hb : 8 ≤ b) : lensV v' b := by
  obtain ⟨h1, h2, h3, h4⟩ := h
  obtain rfl | rfl | rfl | rfl | rfl | ⟨j, rfl⟩ := five k
  all_goals rw [putR] at e
  · obtain ⟨i, e1, rfl⟩ := Option.map_eq_some_iff.1 e; exact ⟨h1, h2, h3, h4⟩
  · obtain ⟨i, e1, rfl⟩ := Option.map_eq_some_iff.1 e; exact ⟨h1, h2, h3, h4⟩
  · obtain ⟨i, e1, rfl⟩ := Option.map_eq_some_iff.1 e; exact ⟨h1, h2, h3, h4⟩
  · obtain ⟨i, e1, rfl⟩ := Option.map_eq_some_iff.1 e; exact ⟨Nat.le_trans (ag_len e1) hw, h2, h3, h4⟩
  · obtain ⟨i, e1, rfl⟩ := Option.map_eq_some_iff.1 e; exact ⟨h1, Nat.le_trans (ag_len e1) hw, h3, h4⟩
  · split at e
    · obtain ⟨i, e1, rfl⟩ := Option.map_eq_some_iff.1 e
      refine ⟨h1, h2, by simp; omega, fun r hr => ?_⟩
      simp only [List.mem_append, List.mem_singleton] at hr
      rcases hr with hr | rfl
      · exact h4 r hr
      · exact Nat.le_trans (res_len e1) hw
    · cases e
theorem gPar_lens (u : UnitS) (m : Int) (b : Nat) (hb : 8 ≤ b) : ∀ (s w : List UInt8) (k : Nat) (v : S_api_Verdict), lensV v b → w.length + s.length + 1 ≤ b → lensV (gPar u m w s k v).1 b
  | [], w, k, v, h, hl => by
    rw [gPar]; split
    · exact h
    · exact ⟨Nat.zero_le _, Nat.zero_le _, Nat.zero_le _, fun r hr => by cases hr⟩
  | c :: s, w, k, v, h, hl => by
    rw [gPar]
    simp only [List.length_cons] at hl
    split
    · split
      · rename_i v' e
        have := wGo_len w []
        exact gPar_lens u m b hb s [] _ v' (put_lens e h (by rw [wordsL]; omega) hb) (by simp; omega)
      · exact ⟨Nat.zero_le _, Nat.zero_le _, Nat.zero_le _, fun r hr => by cases hr⟩
    · exact gPar_lens u m b hb s _ k v h (by simp; omega)
theorem parseR_lens (u : UnitS) (m : Int) (s : List UInt8) (h : s.length ≤ 400000) : lensV (parseR u m s).1 (s.length + 8) :=
  gPar_lens u m _ (by omega) s [] 0 v0V ⟨Nat.zero_le _, Nat.zero_le _, Nat.zero_le _, fun r hr => by cases hr⟩ (by simp)
end Go.Proofs.Ytmaklniljnbokaa
end

section
namespace Go.Proofs.Ytmaklniljnbokaa
set_option linter.unusedVariables false
set_option linter.unusedSimpArgs false
set_option maxRecDepth 100000

theorem small_fit {v : S_api_Verdict} {n : Nat} (h : smallV v = true) (hn : 5000 < n) : fitV v n := by
  simp only [smallV, Bool.and_eq_true, decide_eq_true_eq, List.all_eq_true] at h
  obtain ⟨⟨h1, h2⟩, h3⟩ := h
  refine ⟨by omega, by omega, fun r hr => ?_, by omega, by omega, by omega⟩
  have := h3 r hr
  omega
theorem light24_L (n : Nat) (v : S_api_Verdict) (h : v.f_Results.length ≤ 20) {k : Nat} (hk : 20 < k) : law24_light_L0 n v k 0 = bif v.f_Results.all (fun r => decide (r.f_Path.length ≤ 60)) then some (.out ()) else some (.ret false) := by
  refine all_list v.f_Results (fun k i => law24_light_L0 n v k (i : Int)) (fun r => decide (r.f_Path.length ≤ 60)) (fun k => by rw [law24_light_L0, bif_not (by omega)]) (fun k i x hi hx => ?_) (k := k) (by omega)
  rw [law24_light_L0, bif_decide (by omega), idx_some hx, Option.bind_some, wrap_one i (by omega)]
  by_cases c : x.f_Path.length ≤ 60
  · rw [bif_not (by omega), decide_eq_true c]; rfl
  · rw [bif_decide (by omega), decide_eq_false c]; rfl
def lightV (u : UnitS) (v : S_api_Verdict) : Bool := lightU u && (decide (v.f_Prefix.length ≤ 60) && (decide (v.f_Cycle.length ≤ 60) && (decide (v.f_Results.length ≤ 20) && v.f_Results.all (fun r => decide (r.f_Path.length ≤ 60)))))
theorem light24_m (n : Nat) (u : UnitS) (v : S_api_Verdict) (hn : 100 < n) : m_law24_light n u v = some (lightV u v) := by
  obtain ⟨n, rfl⟩ : ∃ j, n = j + 2 := ⟨n - 2, by omega⟩
  rw [m_law24_light, m_ref07_Light, Option.bind_some, lightV]
  cases lightU u with
  | false => rfl
  | true =>
    rw [cond_true, Bool.true_and]
    by_cases c1 : v.f_Prefix.length ≤ 60
    rotate_left
    · rw [bif_decide (by omega), decide_eq_false c1]; rfl
    by_cases c2 : v.f_Cycle.length ≤ 60
    rotate_left
    · rw [bif_not (by omega), bif_decide (by omega), decide_eq_true c1, decide_eq_false c2]; rfl
    by_cases c3 : v.f_Results.length ≤ 20
    rotate_left
    · rw [bif_not (by omega), bif_not (by omega), bif_decide (by omega), decide_eq_true c1, decide_eq_true c2, decide_eq_false c3]; rfl
    rw [bif_not (by omega), bif_not (by omega), bif_not (by omega), decide_eq_true c1, decide_eq_true c2, decide_eq_true c3, light24_L _ v c3 (by omega)]
    cases v.f_Results.all (fun r => decide (r.f_Path.length ≤ 60)) <;> rfl
theorem light_small {u : UnitS} {v : S_api_Verdict} (h : lightV u v = true) : smallV v = true := by
  simp only [lightV, smallV, Bool.and_eq_true, decide_eq_true_eq, List.all_eq_true] at h ⊢
  exact ⟨⟨by omega, by omega⟩, fun r hr => by have := h.2.2.2.2 r hr; omega⟩
theorem rshow_m (n : Nat) (u : UnitS) (m : Int) (v : S_api_Verdict) (hs : smallV v = true) (hn : 0 < n) : m_report_Show n u m v = some (showT u m v) := by
  obtain ⟨n, rfl⟩ : ∃ j, n = j + 1 := ⟨n - 1, by omega⟩
  rw [m_report_Show, if_pos hs]
end Go.Proofs.Ytmaklniljnbokaa
end

section
namespace Go.Proofs.Ytmaklniljnbokaa
set_option linter.unusedVariables false
set_option linter.unusedSimpArgs false
set_option maxRecDepth 100000

theorem decF_dig : ∀ (k : Nat) (x : Int), 0 ≤ x → ∀ c ∈ decF k x, 48 ≤ c.toNat ∧ c.toNat ≤ 57
  | 0, _, _, c, h => by simp [decF] at h
  | k + 1, x, h0, c, h => by
    have hd : ∀ d : Int, 0 ≤ d → d < 10 → 48 ≤ (digC d).toNat ∧ (digC d).toNat ≤ 57 := by
      intro d h1 h2
      obtain ⟨e, rfl⟩ : ∃ e : Nat, d = e := ⟨d.toNat, by omega⟩
      have : e < 10 := by omega
      clear h1 h2
      revert e; decide
    simp only [decF] at h
    split at h
    · simp only [List.mem_singleton] at h; subst h; exact hd _ h0 (by assumption)
    · simp only [List.mem_append, List.mem_singleton] at h
      rcases h with h | rfl
      · exact decF_dig k _ (by omega) c h
      · exact hd _ (by omega) (by omega)
theorem decL_no (x : Int) (h : 0 ≤ x) (c : UInt8) (hc : c.toNat < 48) : c ∉ decL x := fun hm => by
  have := decF_dig _ x h c hm; omega
theorem numGo_app : ∀ (a b : List UInt8) (n : Int), numGo (a ++ b) n = (numGo a n).bind (numGo b)
  | [], b, n => rfl
  | c :: a, b, n => by
    rw [List.cons_append, numGo, numGo]
    split
    · rw [numGo_app a b]
    · rfl
theorem numGo_dig (d n : Int) (h0 : 0 ≤ d) (h : d < 10) : numGo [digC d] n = some (10 * n + d) := by
  have e : ((digC d).toNat : Int) = 48 + d := by
    obtain ⟨e, rfl⟩ : ∃ e : Nat, d = e := ⟨d.toNat, by omega⟩
    have : e < 10 := by omega
    clear h0 h
    revert e; decide
  rw [numGo, if_pos (by omega), numGo, e]
  congr 1; omega
theorem numGo_dec : ∀ (k : Nat) (x : Int), 0 ≤ x → x.toNat < k → numGo (decL x) 0 = some x
  | 0, x, _, h => by omega
  | k + 1, x, h0, h => by
    by_cases c : x < 10
    · rw [decL_lt c, numGo_dig x 0 h0 c]; simp
    · rw [decL_ge h0 c, numGo_app, numGo_dec k (x / 10) (by omega) (by omega), Option.bind_some, numGo_dig _ _ (by omega) (by omega)]
      congr 1; omega
theorem numT_dec (x lo hi : Int) (h0 : 0 ≤ x) (h1 : lo ≤ x) (h2 : x ≤ hi) : numT (decL x) lo hi = (x, true) := by
  rw [numT, numGo_dec (x.toNat + 1) x h0 (by omega)]
  simp [h1, h2]

def agK (r k m : Nat) : List Agt := thrs r ++ (if m = 2 then fls2 r else if m = 3 then fls3 r k else [])
def agKok (r k m : Nat) : Bool := (agK r k m).all (fun x => x.name.all (fun c => decide (c = 46) || decide (48 ≤ c)) && decide (x.name.length ≤ 10)) && (List.range 28).all fun i => (List.range i).all fun j => decide ((agK r k m).length ≤ i) || !decide ((agK r k m)[j]?.map Agt.name = (agK r k m)[i]?.map Agt.name)
theorem agK_ok : ∀ r, r < 5 → ∀ k, k < 7 → ∀ m, m < 4 → agKok r k m = true := by decide +kernel
theorem agK_names (r : Nat) (hr : r < 5) (k : Nat) (hk : k < 7) (m : Nat) (hm : m < 4) : (∀ x ∈ agK r k m, x.name.all (fun c => decide (c = 46) || decide (48 ≤ c)) = true ∧ x.name.length ≤ 10) ∧ ∀ i, i < 28 → ∀ j, j < i → i < (agK r k m).length → ((agK r k m)[j]?.map Agt.name) ≠ ((agK r k m)[i]?.map Agt.name) := by
  have h := agK_ok r hr k hk m hm
  rw [agKok, Bool.and_eq_true, List.all_eq_true, List.all_eq_true] at h
  refine ⟨fun x hx => ?_, fun i hi j hj hl => ?_⟩
  · have := h.1 x hx
    rw [Bool.and_eq_true, decide_eq_true_eq] at this
    exact this
  · have := h.2 i (by simpa using hi)
    rw [List.all_eq_true] at this
    have := this j (by simpa using hj)
    rw [Bool.or_eq_true, decide_eq_true_eq] at this
    rcases this with h | h
    · omega
    · simpa using h
theorem agentsL_K {u : UnitS} {m : Int} (h : agentsL u m ≠ []) : ∃ r k j, r < 5 ∧ k < 7 ∧ j < 4 ∧ agentsL u m = agK r k j := by
  unfold agentsL at h ⊢
  split at h
  · rename_i g
    have hl := right_lens g.1
    refine ⟨u.regs.length, u.init.length, m.toNat, by omega, by omega, by omega, ?_⟩
    rw [if_pos g, agK]
    congr 1
    by_cases c2 : m = 2
    · subst c2; rfl
    · rw [if_neg c2, if_neg (show ¬ m.toNat = 2 by omega)]
      by_cases c3 : m = 3
      · subst c3; rfl
      · rw [if_neg c3, if_neg (show ¬ m.toNat = 3 by omega)]
  · exact absurd rfl h
theorem nameU_some {u : UnitS} {m a : Int} (h : nameU u m a ≠ []) : 0 ≤ a ∧ ∃ x, (agentsL u m)[a.toNat]? = some x ∧ x.name = nameU u m a := by
  unfold nameU at h ⊢
  split at h
  · rename_i g
    refine ⟨g.1, _, List.getElem?_eq_getElem g.2, ?_⟩
    rw [dif_pos g]
  · exact absurd rfl h
theorem nameU_good {u : UnitS} {m a : Int} (h : nameU u m a ≠ []) : 32 ∉ nameU u m a ∧ 10 ∉ nameU u m a ∧ (nameU u m a).length ≤ 10 ∧ numU u m (nameU u m a) = a := by
  obtain ⟨h0, x, hx, hn⟩ := nameU_some h
  have hne : agentsL u m ≠ [] := fun e => by rw [e] at hx; simp at hx
  obtain ⟨r, k, j, hr, hk, hj, hK⟩ := agentsL_K hne
  obtain ⟨g1, g2⟩ := agK_names r hr k hk j hj
  rw [← hK] at g1 g2
  obtain ⟨q1, q2⟩ := g1 x (List.mem_of_getElem? hx)
  rw [hn] at q1 q2
  rw [List.all_eq_true] at q1
  refine ⟨fun hm => ?_, fun hm => ?_, q2, ?_⟩
  · exact absurd (q1 _ hm) (by decide)
  · exact absurd (q1 _ hm) (by decide)
  · obtain ⟨hlt, he⟩ := List.getElem?_eq_some_iff.1 hx
    have hl28 := agents_len u m
    have hf : (agentsL u m).findIdx? (fun y => y.name == nameU u m a) = some a.toNat := by
      rw [List.findIdx?_eq_some_iff_getElem]
      refine ⟨hlt, by rw [he, hn]; simp, fun i hi => ?_⟩
      have hi2 : i < (agentsL u m).length := by omega
      have hne2 := g2 a.toNat (by omega) i hi hlt
      rw [List.getElem?_eq_getElem hi2, hx] at hne2
      simp only [Option.map_some, ne_eq, Option.some.injEq] at hne2
      rw [hn] at hne2
      simpa using hne2
    unfold numU
    rw [hf]
    show ((a.toNat : Nat) : Int) = a
    omega
theorem numU_name {u : UnitS} {m : Int} {w : List UInt8} (h : ¬ numU u m w < 0) : nameU u m (numU u m w) = w := by
  unfold numU at h ⊢
  cases hf : (agentsL u m).findIdx? (fun y => y.name == w) with
  | none => rw [hf] at h; exact absurd (by decide) h
  | some i =>
    obtain ⟨hi, hp, _⟩ := List.findIdx?_eq_some_iff_getElem.1 hf
    show nameU u m ((i : Nat) : Int) = w
    rw [nameU_of (List.getElem?_eq_getElem hi)]
    exact eq_of_beq hp

theorem restT_join {u : UnitS} {m : Int} : ∀ {ws : List (List UInt8)} {l : List Int} (w : List UInt8), numsW u m ws = some l → joinW (w :: ws) = w ++ restT u m l ∧ namedL u m l = true
  | [], l, w, h => by rw [numsW] at h; cases h; simp [joinW, restT, namedL]
  | x :: ws, l, w, h => by
    rw [numsW] at h
    split at h
    · cases h
    · rename_i hx
      obtain ⟨l', h', rfl⟩ := Option.map_eq_some_iff.1 h
      obtain ⟨e1, e2⟩ := restT_join x h'
      have hn := numU_name hx
      have hne : x ≠ [] := fun e => hx (by rw [e, numU_nil]; decide)
      rw [joinW, e1, restT]
      have ho : oneT u m (numU u m x) = x := by unfold oneT; rw [hn, if_neg hne]
      rw [ho]
      refine ⟨by simp, ?_⟩
      simp only [namedL, List.all_cons, Bool.and_eq_true] at e2 ⊢
      exact ⟨by rw [hn]; simpa using hne, e2⟩
theorem ag_text {u : UnitS} {m : Int} {h s : List UInt8} {l : List Int} (e : agN u m h (wordsL s) = some l) : s = pathT u m h l ∧ namedL u m l = true := by
  unfold agN at e
  split at e
  · rename_i a r hw
    split at e
    · rename_i g
      subst g
      have hs := words_eq hw
      match r, e, hs with
      | [], e, hs => rw [numsW] at e; cases e; exact ⟨by rw [hs]; simp [joinW, pathT], rfl⟩
      | x :: r, e, hs =>
        obtain ⟨e1, e2⟩ := restT_join a e
        refine ⟨?_, e2⟩
        rw [hs, e1]
        rw [numsW] at e
        split at e
        · cases e
        · obtain ⟨l', _, rfl⟩ := Option.map_eq_some_iff.1 e
          unfold pathT
          rw [if_neg (by simp)]
          simp [restT, textU]
    · cases e
  · cases e
theorem one_named {u : UnitS} {m a : Int} (h : nameU u m a ≠ []) : oneT u m a = nameU u m a := by unfold oneT; rw [if_neg h]
theorem words_rest {u : UnitS} {m : Int} : ∀ (l : List Int) (x : List UInt8), 32 ∉ x → namedL u m l = true → wordsL (x ++ restT u m l) = x :: l.map (nameU u m)
  | [], x, hx, _ => by rw [restT, List.append_nil, words_no hx]; rfl
  | a :: l, x, hx, h => by
    simp only [namedL, List.all_cons, Bool.and_eq_true] at h
    have ha : nameU u m a ≠ [] := by simpa using h.1
    rw [restT, List.cons_append, words_sp _ hx, one_named ha, words_rest l _ (nameU_good ha).1 (by simpa [namedL] using h.2)]
    rfl
theorem nums_names {u : UnitS} {m : Int} : ∀ (l : List Int), namedL u m l = true → numsW u m (l.map (nameU u m)) = some l
  | [], _ => rfl
  | a :: l, h => by
    simp only [namedL, List.all_cons, Bool.and_eq_true] at h
    have ha : nameU u m a ≠ [] := by simpa using h.1
    have hg := (nameU_good ha).2.2.2
    have h0 := (nameU_some ha).1
    rw [List.map_cons, numsW, hg, if_neg (by omega), nums_names l (by simpa [namedL] using h.2)]
    rfl
theorem ag_path {u : UnitS} {m : Int} {h : List UInt8} {l : List Int} (hh : 32 ∉ h) (hl : namedL u m l = true) : agN u m h (wordsL (pathT u m h l)) = some l := by
  match l, hl with
  | [], _ => rw [pathT, if_pos rfl, words_no hh, agN, if_pos rfl]; rfl
  | a :: l, hl =>
    have hl2 := hl
    simp only [namedL, List.all_cons, Bool.and_eq_true] at hl2
    have ha : nameU u m a ≠ [] := by simpa using hl2.1
    rw [pathT, if_neg (by simp), words_sp _ hh, textU, one_named ha, words_rest l _ (nameU_good ha).1 (by simpa [namedL] using hl2.2), agN, if_pos rfl]
    exact nums_names (a :: l) hl
theorem rest_no {u : UnitS} {m : Int} : ∀ (l : List Int), namedL u m l = true → 10 ∉ restT u m l ∧ (restT u m l).length ≤ 11 * l.length
  | [], _ => by simp [restT]
  | a :: l, h => by
    simp only [namedL, List.all_cons, Bool.and_eq_true] at h
    have ha : nameU u m a ≠ [] := by simpa using h.1
    obtain ⟨_, g1, g2, _⟩ := nameU_good ha
    obtain ⟨g3, g4⟩ := rest_no (u := u) (m := m) l (by simpa [namedL] using h.2)
    rw [restT, one_named ha]
    refine ⟨?_, by simp; omega⟩
    simp only [List.cons_append, List.mem_cons, List.mem_append, not_or]
    exact ⟨by decide, g1, g3⟩
theorem path_no {u : UnitS} {m : Int} {h : List UInt8} {l : List Int} (hh : 10 ∉ h) (hl : namedL u m l = true) : 10 ∉ pathT u m h l ∧ (pathT u m h l).length ≤ h.length + 11 * l.length := by
  match l, hl with
  | [], _ => rw [pathT, if_pos rfl]; exact ⟨hh, by simp⟩
  | a :: l, hl =>
    simp only [namedL, List.all_cons, Bool.and_eq_true] at hl
    have ha : nameU u m a ≠ [] := by simpa using hl.1
    obtain ⟨_, g1, g2, _⟩ := nameU_good ha
    obtain ⟨g3, g4⟩ := rest_no (u := u) (m := m) l (by simpa [namedL] using hl.2)
    rw [pathT, if_neg (by simp), textU, one_named ha]
    refine ⟨?_, by simp; omega⟩
    simp only [List.mem_cons, List.mem_append, not_or]
    exact ⟨hh, by decide, g1, g3⟩
end Go.Proofs.Ytmaklniljnbokaa
end

section
namespace Go.Proofs.Ytmaklniljnbokaa
set_option linter.unusedVariables false
set_option linter.unusedSimpArgs false
set_option maxRecDepth 100000

/-- A result's line. -/
def resW (u : UnitS) (m : Int) (r : S_api_Result) : List UInt8 := kL ++ 32 :: ((if r.f_Holds = true then kH else kF) ++ (if r.f_Has = true then 32 :: pathT u m kB r.f_Path else []))
theorem resT_L (u : UnitS) (m : Int) (r : S_api_Result) : resT u m r = resW u m r ++ [10] := by
  unfold resT resW
  cases r.f_Holds <;> cases r.f_Has <;> simp
/-- A verdict's lines. -/
def lineT (u : UnitS) (m : Int) (v : S_api_Verdict) : Nat → List UInt8
  | 0 => kO ++ 32 :: outT v.f_Outcome
  | 1 => kS ++ 32 :: decL v.f_States
  | 2 => kE ++ 32 :: decL v.f_Edges
  | 3 => pathT u m kP v.f_Prefix
  | 4 => pathT u m kC v.f_Cycle
  | j + 5 => match v.f_Results[j]? with
    | some r => resW u m r
    | none => []
/-- The lines ahead of the k-th. -/
def prefT (u : UnitS) (m : Int) (v : S_api_Verdict) : Nat → List UInt8
  | 0 => []
  | k + 1 => prefT u m v k ++ (lineT u m v k ++ [10])
theorem prefT_res (u : UnitS) (m : Int) (v : S_api_Verdict) : ∀ j, j ≤ v.f_Results.length → prefT u m v (j + 5) = headT u m v ++ (v.f_Results.take j).flatMap (resT u m)
  | 0, _ => by
    show ((((([] ++ (lineT u m v 0 ++ [10])) ++ (lineT u m v 1 ++ [10])) ++ (lineT u m v 2 ++ [10])) ++ (lineT u m v 3 ++ [10])) ++ (lineT u m v 4 ++ [10])) = _
    simp [lineT, headT]
  | j + 1, h => by
    have hlt : j < v.f_Results.length := by omega
    rw [show j + 1 + 5 = (j + 5) + 1 by omega, prefT, prefT_res u m v j (by omega)]
    rw [show lineT u m v (j + 5) = resW u m v.f_Results[j] by rw [lineT, List.getElem?_eq_getElem hlt]]
    rw [← resT_L, List.take_add_one, List.getElem?_eq_getElem hlt, Option.toList_some, List.flatMap_append, List.flatMap_singleton, List.append_assoc]
theorem prefT_show (u : UnitS) (m : Int) (v : S_api_Verdict) (h : rightV u m v = true) : prefT u m v (v.f_Results.length + 5) = showT u m v := by
  rw [prefT_res u m v _ (Nat.le_refl _), List.take_length, showT, if_pos h]

/-- What was read so far is right. -/
def RightK (u : UnitS) (m : Int) (k : Nat) (v : S_api_Verdict) : Prop := (1 ≤ k → 1 ≤ v.f_Outcome ∧ v.f_Outcome ≤ 3) ∧ (2 ≤ k → 1 ≤ v.f_States ∧ v.f_States ≤ 100000) ∧ (3 ≤ k → 0 ≤ v.f_Edges ∧ v.f_Edges ≤ 10000000) ∧ (4 ≤ k → namedL u m v.f_Prefix = true) ∧ (5 ≤ k → namedL u m v.f_Cycle = true) ∧ v.f_Results.all (rightR u m) = true ∧ v.f_Results.length ≤ 8
theorem right_of {u : UnitS} {m : Int} {k : Nat} {v : S_api_Verdict} (h : RightK u m k v) (hk : 5 ≤ k) : rightV u m v = true := by
  obtain ⟨h1, h2, h3, h4, h5, h6, h7⟩ := h
  simp only [rightV, Bool.and_eq_true, decide_eq_true_eq]
  exact ⟨⟨⟨⟨⟨⟨h1 (by omega), h2 (by omega)⟩, h3 (by omega)⟩, h7⟩, h6⟩, h4 (by omega)⟩, h5 (by omega)⟩
theorem out_text {s : List UInt8} {i : Int} (e : outN (wordsL s) = some i) : s = kO ++ 32 :: outT i ∧ 1 ≤ i ∧ i ≤ 3 := by
  rw [outN_s] at e
  split at e
  · cases e; exact ⟨by assumption, by decide, by decide⟩
  · split at e
    · cases e; exact ⟨by assumption, by decide, by decide⟩
    · split at e
      · cases e; exact ⟨by assumption, by decide, by decide⟩
      · cases e
theorem num_text {h s : List UInt8} {lo hi i : Int} (e : numN h lo hi (wordsL s) = some i) : s = h ++ 32 :: decL i ∧ lo ≤ i ∧ i ≤ hi := by
  unfold numN at e
  split at e
  · rename_i a w hw
    split at e
    · rename_i g
      obtain ⟨rfl, _, g⟩ := g
      have hs := words_eq hw
      unfold numT at e g
      cases hn : numGo w 0 with
      | none => rw [hn] at g; cases g
      | some n =>
        rw [hn] at e g
        simp only [Bool.and_eq_true, decide_eq_true_eq, beq_iff_eq] at g
        simp only [Option.some.injEq] at e
        subst e
        exact ⟨by rw [hs, g.1]; rfl, g.2.1, g.2.2⟩
    · cases e
  · cases e
theorem res_text {u : UnitS} {m : Int} {s : List UInt8} {r : S_api_Result} (e : resN u m (wordsL s) = some r) : s = resW u m r ∧ rightR u m r = true := by
  rw [resN_s] at e
  unfold resS at e
  have key : ∀ (b : Bool) (t : List UInt8), tailS u m b t = some r → t = (if r.f_Has = true then 32 :: pathT u m kB r.f_Path else []) ∧ rightR u m r = true ∧ r.f_Holds = b := by
    intro b t h
    cases t with
    | nil => rw [tailS] at h; cases h; exact ⟨rfl, rfl, rfl⟩
    | cons c t =>
      rw [tailS] at h
      split at h
      · rename_i hc
        obtain ⟨l, e1, rfl⟩ := Option.map_eq_some_iff.1 h
        obtain ⟨g1, g2⟩ := ag_text e1
        exact ⟨by rw [hc, g1]; rfl, by simp [rightR, g2], rfl⟩
      · cases h
  split at e
  · rename_i p
    obtain ⟨t, rfl⟩ := p
    rw [List.drop_left' (by rfl)] at e
    obtain ⟨g1, g2, g3⟩ := key _ _ e
    exact ⟨by rw [resW, g3, if_pos rfl, ← g1]; rfl, g2⟩
  · split at e
    · rename_i p
      obtain ⟨t, rfl⟩ := p
      rw [List.drop_left' (by rfl)] at e
      obtain ⟨g1, g2, g3⟩ := key _ _ e
      exact ⟨by rw [resW, g3, if_neg (by decide), ← g1]; rfl, g2⟩
    · cases e
theorem put_text {u : UnitS} {m : Int} {v v' : S_api_Verdict} {s : List UInt8} {k : Nat} (hi : Inv k v) (hr : RightK u m k v) (e : putR u m v (wordsL s) k = some v') : RightK u m (k + 1) v' ∧ lineT u m v' k = s ∧ prefT u m v' k = prefT u m v k := by
  obtain ⟨h1, h2, h3, h4, h5, h6, h7⟩ := hr
  obtain rfl | rfl | rfl | rfl | rfl | ⟨j, rfl⟩ := five k
  all_goals rw [putR] at e
  · obtain ⟨i, e1, rfl⟩ := Option.map_eq_some_iff.1 e
    obtain ⟨g1, g2⟩ := out_text e1
    exact ⟨⟨fun _ => g2, fun h => by omega, fun h => by omega, fun h => by omega, fun h => by omega, h6, h7⟩, g1.symm, rfl⟩
  · obtain ⟨i, e1, rfl⟩ := Option.map_eq_some_iff.1 e
    obtain ⟨g1, g2⟩ := num_text e1
    exact ⟨⟨fun _ => h1 (by omega), fun _ => g2, fun h => by omega, fun h => by omega, fun h => by omega, h6, h7⟩, g1.symm, rfl⟩
  · obtain ⟨i, e1, rfl⟩ := Option.map_eq_some_iff.1 e
    obtain ⟨g1, g2⟩ := num_text e1
    exact ⟨⟨fun _ => h1 (by omega), fun _ => h2 (by omega), fun _ => g2, fun h => by omega, fun h => by omega, h6, h7⟩, g1.symm, rfl⟩
  · obtain ⟨i, e1, rfl⟩ := Option.map_eq_some_iff.1 e
    obtain ⟨g1, g2⟩ := ag_text e1
    exact ⟨⟨fun _ => h1 (by omega), fun _ => h2 (by omega), fun _ => h3 (by omega), fun _ => g2, fun h => by omega, h6, h7⟩, g1.symm, rfl⟩
  · obtain ⟨i, e1, rfl⟩ := Option.map_eq_some_iff.1 e
    obtain ⟨g1, g2⟩ := ag_text e1
    exact ⟨⟨fun _ => h1 (by omega), fun _ => h2 (by omega), fun _ => h3 (by omega), fun _ => h4 (by omega), fun _ => g2, h6, h7⟩, g1.symm, rfl⟩
  · split at e
    · rename_i h8
      obtain ⟨r, e1, rfl⟩ := Option.map_eq_some_iff.1 e
      obtain ⟨g1, g2⟩ := res_text e1
      have hl : v.f_Results.length = j := by have := hi.2.1 (by omega); omega
      refine ⟨⟨fun _ => h1 (by omega), fun _ => h2 (by omega), fun _ => h3 (by omega), fun _ => h4 (by omega), fun _ => h5 (by omega), by simp only [List.all_append, List.all_cons, List.all_nil, h6, g2, Bool.and_true], by simp; omega⟩, ?_, ?_⟩
      · rw [lineT]
        simp only
        rw [List.getElem?_append_right (by omega), hl, Nat.sub_self]
        exact g1.symm
      · rw [prefT_res u m _ j (by simp; omega), prefT_res u m v j (by omega)]
        simp only
        rw [List.take_append_of_le_length (by omega)]
        rfl
    · cases e
theorem gPar_text (u : UnitS) (m : Int) : ∀ (s w : List UInt8) (k : Nat) (v : S_api_Verdict), Inv k v → RightK u m k v → (gPar u m w s k v).2.1 = 0 → ∃ K, 5 ≤ K ∧ Inv K (gPar u m w s k v).1 ∧ RightK u m K (gPar u m w s k v).1 ∧ prefT u m (gPar u m w s k v).1 K = prefT u m v k ++ w ++ s ∧ (gPar u m w s k v).2.2 = 0
  | [], w, k, v, hi, hr, h => by
    rw [gPar] at h ⊢
    split
    · rename_i g
      obtain ⟨rfl, g⟩ := g
      exact ⟨k, g, hi, hr, by simp, rfl⟩
    · rename_i g
      rw [if_neg g] at h
      cases h
  | c :: s, w, k, v, hi, hr, h => by
    by_cases hc : c = 10
    · cases hq : putR u m v (wordsL w) k with
      | none =>
        have e : gPar u m w (c :: s) k v = errP k := by rw [gPar, if_pos hc, hq]
        rw [e] at h; cases h
      | some v' =>
        have e : gPar u m w (c :: s) k v = gPar u m [] s (k + 1) v' := by rw [gPar, if_pos hc, hq]
        obtain ⟨g1, g2, g3⟩ := put_text hi hr hq
        rw [e] at h ⊢
        obtain ⟨K, a1, a2, a3, a4, a5⟩ := gPar_text u m s [] (k + 1) v' (inv_put hi hq) g1 h
        refine ⟨K, a1, a2, a3, ?_, a5⟩
        rw [a4, prefT, g2, g3, hc]
        simp
    · have e : gPar u m w (c :: s) k v = gPar u m (w ++ [c]) s k v := by rw [gPar, if_neg hc]
      rw [e] at h ⊢
      obtain ⟨K, a1, a2, a3, a4, a5⟩ := gPar_text u m s (w ++ [c]) k v hi hr h
      exact ⟨K, a1, a2, a3, by rw [a4]; simp, a5⟩
theorem gPar_err (u : UnitS) (m : Int) : ∀ (s w : List UInt8) (k : Nat) (v : S_api_Verdict), (gPar u m w s k v).2.1 ≠ 0 → 1 ≤ (gPar u m w s k v).2.2
  | [], w, k, v, h => by
    rw [gPar] at h ⊢
    split
    · rename_i g; rw [if_pos g] at h; exact absurd rfl h
    · show (1 : Int) ≤ ((k + 1 : Nat) : Int); omega
  | c :: s, w, k, v, h => by
    rw [gPar] at h ⊢
    split
    · rename_i hc
      rw [if_pos hc] at h
      split
      · rename_i v' hq
        rw [hq] at h
        exact gPar_err u m s [] _ v' h
      · show (1 : Int) ≤ ((k + 1 : Nat) : Int); omega
    · rename_i hc
      rw [if_neg hc] at h
      exact gPar_err u m s _ k v h
/-- What is read is right, and shown as it was. -/
theorem parse_show (u : UnitS) (m : Int) (s : List UInt8) (h : (parseR u m s).2.1 = 0) : rightV u m (parseR u m s).1 = true ∧ showT u m (parseR u m s).1 = s ∧ (parseR u m s).2.2 = 0 := by
  obtain ⟨K, h1, h2, h3, h4, h5⟩ := gPar_text u m s [] 0 v0V ⟨fun _ => rfl, fun h => by omega, fun _ => rfl⟩ ⟨fun h => by omega, fun h => by omega, fun h => by omega, fun h => by omega, fun h => by omega, rfl, by decide⟩ h
  have hr := right_of h3 h1
  refine ⟨hr, ?_, h5⟩
  show showT u m (gPar u m [] s 0 v0V).1 = s
  rw [← prefT_show u m _ hr]
  have := h2.2.1 h1
  rw [this, h4]
  rfl

def truncV (v : S_api_Verdict) (k : Nat) : S_api_Verdict := ⟨if 1 ≤ k then v.f_Outcome else 0, if 4 ≤ k then v.f_Prefix else [], if 5 ≤ k then v.f_Cycle else [], v.f_Results.take (k - 5), if 2 ≤ k then v.f_States else 0, if 3 ≤ k then v.f_Edges else 0⟩
theorem put_back {u : UnitS} {m : Int} {v : S_api_Verdict} (h : rightV u m v = true) {k : Nat} (hk : k < v.f_Results.length + 5) : putR u m (truncV v k) (wordsL (lineT u m v k)) k = some (truncV v (k + 1)) := by
  simp only [rightV, Bool.and_eq_true, decide_eq_true_eq] at h
  obtain ⟨⟨⟨⟨⟨⟨ho, hst⟩, he⟩, h8⟩, hrs⟩, hp⟩, hc⟩ := h
  obtain rfl | rfl | rfl | rfl | rfl | ⟨j, rfl⟩ := five k
  · rw [putR, lineT, outN_s]
    obtain h | h | h : v.f_Outcome = 1 ∨ v.f_Outcome = 2 ∨ v.f_Outcome = 3 := by omega
    · rw [h, if_pos rfl]; simp [truncV, h]
    · rw [h, if_neg (by decide), if_pos rfl]; simp [truncV, h]
    · rw [h, if_neg (by decide), if_neg (by decide), if_pos rfl]; simp [truncV, h]
  · have hl := decL_short v.f_States 5 (by omega) (by simp; omega)
    have hn := numT_dec v.f_States 1 100000 (by omega) hst.1 hst.2
    rw [putR, lineT, words_sp _ (by decide), words_no (decL_no _ (by omega) 32 (by decide)), numN, if_pos ⟨rfl, by omega, by rw [hn]⟩, hn]
    simp [truncV]
  · have hl := decL_short v.f_Edges 7 (by omega) (by simp; omega)
    have hn := numT_dec v.f_Edges 0 10000000 (by omega) he.1 he.2
    rw [putR, lineT, words_sp _ (by decide), words_no (decL_no _ (by omega) 32 (by decide)), numN, if_pos ⟨rfl, by omega, by rw [hn]⟩, hn]
    simp [truncV]
  · rw [putR, lineT, ag_path (by decide) hp]
    simp [truncV]
  · rw [putR, lineT, ag_path (by decide) hc]
    simp [truncV]
  · have hlt : j < v.f_Results.length := by omega
    have hr : rightR u m v.f_Results[j] = true := List.all_eq_true.1 hrs _ (List.getElem_mem hlt)
    have hlen : (truncV v (j + 5)).f_Results.length = j := by simp [truncV]; omega
    rw [putR, if_pos (by omega), lineT, List.getElem?_eq_getElem hlt]
    simp only
    have hq : resN u m (wordsL (resW u m v.f_Results[j])) = some v.f_Results[j] := by
      generalize v.f_Results[j] = r at hr
      rw [resW, resN_t u m _ (by split; exact .inl rfl; exact .inr rfl)]
      simp only [rightR, Bool.and_eq_true, Bool.or_eq_true, decide_eq_true_eq] at hr
      obtain ⟨g1, g2⟩ := hr
      obtain ⟨a, b, c⟩ := r
      cases b with
      | false =>
        have hc : c = [] := by rcases g2 with g | g; cases g; exact g
        subst hc
        cases a <;> rfl
      | true =>
        simp only [if_true]
        rw [tailS, if_pos rfl, ag_path (by decide) g1]
        cases a <;> rfl
    rw [hq]
    simp only [Option.map_some, truncV]
    rw [show j + 5 + 1 - 5 = j + 1 by omega, show j + 5 - 5 = j by omega, List.take_add_one, List.getElem?_eq_getElem hlt]
    simp
theorem line_no {u : UnitS} {m : Int} {v : S_api_Verdict} (h : rightV u m v = true) (hl : lensV v 60) {k : Nat} (hk : k < v.f_Results.length + 5) : 10 ∉ lineT u m v k ∧ (lineT u m v k).length ≤ 1000 := by
  simp only [rightV, Bool.and_eq_true, decide_eq_true_eq] at h
  obtain ⟨⟨⟨⟨⟨⟨ho, hst⟩, he⟩, h8⟩, hrs⟩, hp⟩, hc⟩ := h
  obtain ⟨l1, l2, l3, l4⟩ := hl
  obtain rfl | rfl | rfl | rfl | rfl | ⟨j, rfl⟩ := five k
  · rw [lineT]
    obtain h | h | h : v.f_Outcome = 1 ∨ v.f_Outcome = 2 ∨ v.f_Outcome = 3 := by omega
    all_goals rw [h]; exact ⟨by decide, by decide⟩
  · have hl := decL_short v.f_States 5 (by omega) (by simp; omega)
    have hn := decL_no v.f_States (by omega) 10 (by decide)
    rw [lineT]
    refine ⟨?_, by simp; omega⟩
    simp only [List.mem_append, List.mem_cons, not_or]
    exact ⟨by decide, by decide, hn⟩
  · have hl := decL_short v.f_Edges 7 (by omega) (by simp; omega)
    have hn := decL_no v.f_Edges (by omega) 10 (by decide)
    rw [lineT]
    refine ⟨?_, by simp; omega⟩
    simp only [List.mem_append, List.mem_cons, not_or]
    exact ⟨by decide, by decide, hn⟩
  · obtain ⟨a, b⟩ := path_no (u := u) (m := m) (h := kP) (by decide) hp
    rw [lineT]; exact ⟨a, by simp at b; omega⟩
  · obtain ⟨a, b⟩ := path_no (u := u) (m := m) (h := kC) (by decide) hc
    rw [lineT]; exact ⟨a, by simp at b; omega⟩
  · have hlt : j < v.f_Results.length := by omega
    have hr : rightR u m v.f_Results[j] = true := List.all_eq_true.1 hrs _ (List.getElem_mem hlt)
    have hl := l4 _ (List.getElem_mem hlt)
    rw [lineT, List.getElem?_eq_getElem hlt]
    simp only
    generalize v.f_Results[j] = r at hr hl
    simp only [rightR, Bool.and_eq_true] at hr
    obtain ⟨a, b⟩ := path_no (u := u) (m := m) (h := kB) (by decide) hr.1
    rw [resW]
    refine ⟨?_, ?_⟩
    · simp only [List.mem_append, List.mem_cons, not_or]
      refine ⟨by decide, by decide, by split <;> decide, ?_⟩
      split
      · simp only [List.mem_cons, not_or]; exact ⟨by decide, a⟩
      · simp
    · have : ∀ c : Bool, (if c = true then kH else kF).length = 5 := fun c => by cases c <;> rfl
      simp only [List.length_append, List.length_cons, this]
      split
      · simp at b ⊢; omega
      · simp
theorem gPar_back {u : UnitS} {m : Int} {v : S_api_Verdict} (h : rightV u m v = true) (hl : lensV v 60) : ∀ (j k : Nat), k + j = v.f_Results.length + 5 → ∃ t, showT u m v = prefT u m v k ++ t ∧ gPar u m [] t k (truncV v k) = (v, 0, 0)
  | 0, k, hk => by
    obtain rfl : k = v.f_Results.length + 5 := by omega
    refine ⟨[], by rw [prefT_show u m v h, List.append_nil], ?_⟩
    rw [gPar, if_pos ⟨rfl, by omega⟩]
    simp [truncV]
  | j + 1, k, hk => by
    obtain ⟨t, h1, h2⟩ := gPar_back h hl j (k + 1) (by omega)
    refine ⟨lineT u m v k ++ 10 :: t, by rw [h1, prefT]; simp, ?_⟩
    rw [gPar_line u m _ _ _ _ _ (line_no h hl (by omega)).1, List.nil_append, put_back h (by omega)]
    exact h2
theorem show_parse {u : UnitS} {m : Int} {v : S_api_Verdict} (h : rightV u m v = true) (hl : lensV v 60) : parseR u m (showT u m v) = (v, 0, 0) := by
  obtain ⟨t, h1, h2⟩ := gPar_back h hl (v.f_Results.length + 5) 0 (by omega)
  rw [h1]
  exact h2
theorem prefT_len {u : UnitS} {m : Int} {v : S_api_Verdict} (h : rightV u m v = true) (hl : lensV v 60) : ∀ k, k ≤ v.f_Results.length + 5 → (prefT u m v k).length ≤ 1001 * k
  | 0, _ => by simp [prefT]
  | k + 1, hk => by
    have := prefT_len h hl k (by omega)
    have := (line_no h hl (k := k) (by omega)).2
    rw [prefT]; simp; omega
theorem showT_len {u : UnitS} {m : Int} {v : S_api_Verdict} (h : rightV u m v = true) (hl : lensV v 60) : (showT u m v).length ≤ 13100 := by
  have h8 : v.f_Results.length ≤ 8 := by
    simp only [rightV, Bool.and_eq_true, decide_eq_true_eq] at h
    exact h.1.1.1.2
  have := prefT_len h hl _ (Nat.le_refl _)
  rw [prefT_show u m v h] at this
  omega
end Go.Proofs.Ytmaklniljnbokaa
end

section
namespace Go.Proofs.Ytmaklniljnbokaa
set_option linter.unusedVariables false
set_option linter.unusedSimpArgs false
set_option maxRecDepth 100000

theorem lens_small {v : S_api_Verdict} {b : Nat} (h : lensV v b) (hb : b ≤ 4000) : smallV v = true := by
  obtain ⟨h1, h2, h3, h4⟩ := h
  simp only [smallV, Bool.and_eq_true, decide_eq_true_eq, List.all_eq_true]
  exact ⟨⟨by omega, by omega⟩, fun r hr => by have := h4 r hr; omega⟩
theorem light_lens {u : UnitS} {v : S_api_Verdict} (h : lightV u v = true) : lensV v 60 := by
  simp only [lightV, Bool.and_eq_true, decide_eq_true_eq, List.all_eq_true] at h
  exact ⟨by omega, by omega, by omega, fun r hr => h.2.2.2.2 r hr⟩
theorem back_step {n : Nat} (hn : 19000 < n) (u : UnitS) (v : S_api_Verdict) (s : List UInt8) (hv : lightV u v = true) (hs : s.length ≤ 2000) (k : Nat) (m : Int) (hm : m ≤ 3) : law24_ReportBack_L0 n u v s (k + 1) m = law24_ReportBack_L0 n u v s k (IntKind.i64.wrap (m + 1)) := by
  have hl := light_lens hv
  have hsv := light_small hv
  have tail : ((m_report_Right n u m v).bind fun y29 => (bif y29 then ((m_report_Show n u m v).bind fun y32 => ((m_report_Parse n u m y32).bind fun y34 => (bif (y34.2.1 != 0) then (some (.ret false)) else ((m_ref23_Same n v y34.1).bind fun y37 => (bif y37 then (law24_ReportBack_L0 n u v s k (IntKind.i64.wrap (m + 1))) else (some (.ret false))))))) else (law24_ReportBack_L0 n u v s k (IntKind.i64.wrap (m + 1))))) = law24_ReportBack_L0 n u v s k (IntKind.i64.wrap (m + 1)) := by
    rw [rright_m n u m v (small_fit hsv (by omega)), Option.bind_some]
    cases hr : rightV u m v with
    | false => rfl
    | true =>
      have hlen := showT_len hr hl
      rw [cond_true, rshow_m n u m v hsv (by omega), Option.bind_some, rparse_m n u m _ (by omega) (by omega), Option.bind_some, show_parse hr hl]
      rw [show (((v, (0 : Int), (0 : Int)).2.1) != 0) = false from rfl, cond_false, same23_m n v 60 hl (by omega) (by omega), Option.bind_some, cond_true]
  rw [law24_ReportBack_L0, bif_decide hm, rparse_m n u m s (by omega) (by omega), Option.bind_some]
  have hpl := parseR_lens u m s (by omega)
  by_cases h0 : (parseR u m s).2.1 = 0
  · obtain ⟨g1, g2, g3⟩ := parse_show u m s h0
    have hsw := lens_small hpl (by omega)
    have e0 : ((parseR u m s).2.1 == 0) = true := by rw [h0]; rfl
    have e1 : ((parseR u m s).2.1 != 0) = false := by rw [h0]; rfl
    have e2 : ((parseR u m s).2.2 != 0) = false := by rw [g3]; rfl
    rw [e0, cond_true, rright_m n u m _ (small_fit hsw (by omega)), Option.bind_some, g1, cond_true, rshow_m n u m _ hsw (by omega), Option.bind_some, g2, beq_self_eq_true, cond_true, e2, cond_false, e1, cond_false]
    exact tail
  · have g := gPar_err u m s [] 0 v0V h0
    have e0 : ((parseR u m s).2.1 == 0) = false := beq_eq_false_iff_ne.2 h0
    have e1 : ((parseR u m s).2.1 != 0) = true := bne_iff_ne.2 h0
    have e2 : ¬ (parseR u m s).2.2 < 1 := by
      have : 1 ≤ (parseR u m s).2.2 := g
      omega
    rw [e0, cond_false, e1, cond_true, bif_not e2]
    exact tail
theorem reportBack_k {n : Nat} (hk : m_law24_known n = some true) (hn : 19000 < n) (u : UnitS) (v : S_api_Verdict) (s : List UInt8) : m_law24_ReportBack (n + 1) u v s = some true := by
  rw [m_law24_ReportBack, light24_m n u v (by omega), Option.bind_some]
  cases hv : lightV u v with
  | false => rw [cond_false, hk]; rfl
  | true =>
    rw [cond_true]
    by_cases c : 2000 < s.length
    · rw [bif_decide (by omega), hk]; rfl
    · obtain ⟨j, hj⟩ : ∃ j, n = j + 4 := ⟨n - 4, by omega⟩
      have h1 := back_step hn u v s hv (by omega) (j + 3) 1 (by decide)
      have h2 := back_step hn u v s hv (by omega) (j + 2) 2 (by decide)
      have h3 := back_step hn u v s hv (by omega) (j + 1) 3 (by decide)
      have h4 : law24_ReportBack_L0 n u v s (j + 1) 4 = some (.out ()) := by rw [law24_ReportBack_L0, bif_not (by decide)]
      have hL : law24_ReportBack_L0 n u v s n 1 = some (.out ()) := by
        have e : law24_ReportBack_L0 n u v s n 1 = law24_ReportBack_L0 n u v s (j + 3 + 1) 1 := congrArg (fun q => law24_ReportBack_L0 n u v s q 1) hj
        rw [e, h1, show IntKind.i64.wrap (1 + 1) = 2 from rfl, h2, show IntKind.i64.wrap (2 + 1) = 3 from rfl, h3, show IntKind.i64.wrap (3 + 1) = 4 from rfl, h4]
      rw [bif_not (by omega), hL, Option.bind_some]
      show (m_law24_known n).bind _ = _
      rw [hk]; rfl
theorem reportBack_m (u : UnitS) (v : S_api_Verdict) (s : List UInt8) : m_law24_ReportBack 20001 u v s = some true := reportBack_k known24 (by omega) u v s
end Go.Proofs.Ytmaklniljnbokaa
end

section
namespace Go.Proofs.Ytmaklniljnbokaa
set_option linter.unusedVariables false
set_option linter.unusedSimpArgs false
set_option maxRecDepth 100000
set_option maxHeartbeats 4000000

theorem ok_report_cut {n:Nat} ⦃v0_s:(List UInt8)⦄ ⦃r:((List (List UInt8))×Bool)⦄:m_report_cut n v0_s=some r→CN n 36 [sA v0_s] []=some (AV.tup [AV.sl 1 (List.map encS r.1),bA r.2],[]):=by
 intro h;rcases n with _|n;cases h
 rw [m_report_cut] at h
 refine callN_eq' Try.func36 (by rfl) rfl rfl (Nat.le_of_ble_eq_true rfl) ?_
 intro call hc;conv=>lhs;whnf
 revert h
 intro h;refine bind_some2 h ?_;clear h;intro o11 ho11 h
 refine lq (σ:=(Int×Int×(List (List UInt8)))) (τ:=(List (List UInt8))) (ν:=((List (List UInt8))×Bool)) 0 (fun (s1,s2,s3) a5=>stOf 36 [(0,sA v0_s),(4,AV.row 0 (List.length s3)),(5,iA s1),(6,iA s2)]) (fun (s1,s2,s3) a5=>[Ob.row 9 1 (List.map encS s3)]) (fun x25 a24=>stOf 36 [(4,AV.row 0 (List.length x25))]) (fun x25 a24=>[Ob.row 9 1 (List.map encS x25)]) (fun v=>(AV.tup [AV.sl 1 (List.map encS v.1),bA v.2],[])) (fun k s=>report_cut_L0 n v0_s k s.1 s.2.1 s.2.2) (fun s=>rfl) o11 n (0,0,([]:List (List UInt8))) (fun _=>0) ho11 ?_ ?_
 intro k4 ss a5 K6 cont7 hK8 hcont9 h hr10
 obtain ⟨s1,s2,s3⟩:=ss
 replace h:report_cut_L0 n v0_s (k4+1) s1 s2 s3=some o11:=h
 rw [report_cut_L0] at h
 conv=>lhs;whnf
 revert h
 refine br ?_ ?_
 refine br ?_ ?_
 refine br ?_ ?_
 intro h;cases sj h
 refine (hK8 _ _).trans ?_
 refine Eq.trans ?_ (Eq.symm (show _=some _ from hr10))
 conv=>lhs;whnf
 exact rq
 refine cp ?_
 refine ar (ap encS (List.map encS s3) s3 ([[sA ((List.drop (s1.toNat) (List.take (s2.toNat) v0_s)))]]) ([(List.drop (s1.toNat) (List.take (s2.toNat) v0_s))]:List (List UInt8))) ?_
 exact fun h=>cq (hcont9 (IntKind.i64.wrap (s2+1),IntKind.i64.wrap (s2+1),(s3++([(List.drop (s1.toNat) (List.take (s2.toNat) v0_s))]:List (List UInt8)))) (fun _=>0) h)
 refine ixs ?_;intro x18
 refine br ?_ ?_
 refine br ?_ ?_
 intro h;cases sj h
 refine (hK8 _ _).trans ?_
 refine Eq.trans ?_ (Eq.symm (show _=some _ from hr10))
 conv=>lhs;whnf
 exact rq
 refine cp ?_
 refine ar (ap encS (List.map encS s3) s3 ([[sA ((List.drop (s1.toNat) (List.take (s2.toNat) v0_s)))]]) ([(List.drop (s1.toNat) (List.take (s2.toNat) v0_s))]:List (List UInt8))) ?_
 exact fun h=>cq (hcont9 (IntKind.i64.wrap (s2+1),IntKind.i64.wrap (s2+1),(s3++([(List.drop (s1.toNat) (List.take (s2.toNat) v0_s))]:List (List UInt8)))) (fun _=>0) h)
 exact fun h=>cq (hcont9 (s1,IntKind.i64.wrap (s2+1),s3) (fun _=>0) h)
 intro h;cases sj h
 exact kq (hr10 (fun _=>0))
 refine lrc ?_ ?_
 intro v e;subst e;cases sj h;rfl
 intro x25 a24 e;subst e
 dsimp only at h
 conv=>lhs;whnf
 revert h
 intro h;cases sj h
 try simp only [ls]
 exact fq (y:=some (AV.tup [AV.sl 1 (List.take (List.length x25) (List.map encS x25)),bA true],[]))

theorem ok_report_outcomes {n:Nat} ⦃r:(List (List UInt8))⦄:m_report_outcomes n=some r→CN n 21 [] []=some (AV.sl 1 (List.map encS r),[]):=by
 intro h;rcases n with _|n;cases h
 rw [m_report_outcomes] at h
 refine callN_eq' Try.func21 (by rfl) rfl rfl (Nat.le_of_ble_eq_true rfl) ?_
 intro call hc;conv=>lhs;whnf
 revert h
 exact rz

theorem ok_report_outcome {n:Nat} ⦃v0_words:(List (List UInt8))⦄ ⦃r:(Int×Bool)⦄:m_report_outcome n v0_words=some r→CN n 37 [AV.sl 1 (List.map encS v0_words)] []=some (AV.tup [iA r.1,bA r.2],[]):=by
 intro h;rcases n with _|n;cases h
 rw [m_report_outcome] at h
 refine callN_eq' Try.func37 (by rfl) rfl rfl (Nat.le_of_ble_eq_true rfl) ?_
 intro call hc;conv=>lhs;whnf
 revert h
 refine ca hc (fun _ h=>ok_report_outcomes h) ?_;intro y1
 intro h;refine bind_some2 h ?_;clear h;intro o11 ho11 h
 refine lq (σ:=Int) (τ:=Unit) (ν:=(Int×Bool)) 0 (fun s3 a5=>stOf 29 [(0,AV.sl 1 (List.map encS v0_words)),(6,AV.sl 1 (List.map encS y1)),(7,iA (((y1.length:Nat):Int))),(8,iA s3)]) (fun s3 a5=>[]) (fun _ a18=>stOf 29 []) (fun _ a18=>[]) (fun v=>(AV.tup [iA v.1,bA v.2],[])) (fun k s=>report_outcome_L0 n v0_words y1 k s) (fun s=>rfl) o11 n 0 (fun _=>0) ho11 ?_ ?_
 intro k4 s3 a5 K6 cont7 hK8 hcont9 h hr10
 replace h:report_outcome_L0 n v0_words y1 (k4+1) s3=some o11:=h
 rw [report_outcome_L0] at h
 conv=>lhs;whnf
 revert h
 refine br ?_ ?_
 refine ix ?_;intro x13
 refine br ?_ ?_
 refine br ?_ ?_
 refine ix ?_;intro x16
 refine br ?_ ?_
 intro h;cases sj h
 refine (hK8 _ _).trans ?_
 refine Eq.trans ?_ (Eq.symm (show _=some _ from hr10))
 conv=>lhs;whnf
 exact rq
 exact fun h=>cq (hcont9 (IntKind.i64.wrap (s3+1)) (fun _=>0) h)
 exact fun h=>cq (hcont9 (IntKind.i64.wrap (s3+1)) (fun _=>0) h)
 exact fun h=>cq (hcont9 (IntKind.i64.wrap (s3+1)) (fun _=>0) h)
 intro h;cases sj h
 exact kq (hr10 (fun _=>0))
 refine lrc ?_ ?_
 intro v e;subst e;cases sj h;rfl
 intro t a18 e;subst e
 dsimp only at h
 conv=>lhs;whnf
 revert h
 exact rz

theorem ok_report_reader_path {n:Nat} ⦃v1_names:(List (List UInt8))⦄ ⦃r_u_Mod:Int⦄ ⦃r_u_Init:(List Int)⦄ ⦃r_u_Regs:(List Int)⦄ ⦃r_u_Code:(List (List InstrS))⦄ ⦃r_model:Int⦄ ⦃r_v_Outcome:Int⦄ ⦃r_v_Prefix:(List Int)⦄ ⦃r_v_Cycle:(List Int)⦄ ⦃r_v_Results:(List S_api_Result)⦄ ⦃r_v_States:Int⦄ ⦃r_v_Edges:Int⦄ ⦃r:((List Int)×Bool)⦄:m_report_reader_path n v1_names r_u_Mod r_u_Init r_u_Regs r_u_Code r_model r_v_Outcome r_v_Prefix r_v_Cycle r_v_Results r_v_States r_v_Edges=some r→CN n 39 [AV.ptr 0 0,AV.sl 1 (List.map encS v1_names)] [Ob.var 63 [iA r_u_Mod,AV.sl 1 (List.map encI r_u_Init),AV.sl 1 (List.map encI r_u_Regs),AV.sl 1 (List.map encThr r_u_Code),iA r_model,iA r_v_Outcome,AV.sl 1 (List.map encI r_v_Prefix),AV.sl 1 (List.map encI r_v_Cycle),AV.row 1 (List.length r_v_Results),iA r_v_States,iA r_v_Edges],Ob.row 41 3 (List.map c_api_Result r_v_Results)]=some (AV.tup [AV.sl 1 (List.map encI r.1),bA r.2],[Ob.var 63 [iA r_u_Mod,AV.sl 1 (List.map encI r_u_Init),AV.sl 1 (List.map encI r_u_Regs),AV.sl 1 (List.map encThr r_u_Code),iA r_model,iA r_v_Outcome,AV.sl 1 (List.map encI r_v_Prefix),AV.sl 1 (List.map encI r_v_Cycle),AV.row 1 (List.length r_v_Results),iA r_v_States,iA r_v_Edges],Ob.row 41 3 (List.map c_api_Result r_v_Results)]):=by
 intro h;rcases n with _|n;cases h
 rw [m_report_reader_path] at h
 refine callN_eq' Try.func39 (by rfl) rfl rfl (Nat.le_of_ble_eq_true rfl) ?_
 intro call hc;conv=>lhs;whnf
 revert h
 intro h;refine bind_some2 h ?_;clear h;intro o10 ho10 h
 refine lq (σ:=(Int×(List Int))) (τ:=(List Int)) (ν:=((List Int)×Bool)) 0 (fun (s1,s2) a4=>stOf 34 [(0,AV.ptr 0 0),(6,AV.row 2 (List.length s2)),(10,AV.sl 1 (List.map encS v1_names)),(11,iA (((v1_names.length:Nat):Int))),(12,iA s1)]) (fun (s1,s2) a4=>[Ob.var 63 [iA r_u_Mod,AV.sl 1 (List.map encI r_u_Init),AV.sl 1 (List.map encI r_u_Regs),AV.sl 1 (List.map encThr r_u_Code),iA r_model,iA r_v_Outcome,AV.sl 1 (List.map encI r_v_Prefix),AV.sl 1 (List.map encI r_v_Cycle),AV.row 1 (List.length r_v_Results),iA r_v_States,iA r_v_Edges],Ob.row 41 3 (List.map c_api_Result r_v_Results),Ob.row 3 1 (List.map encI s2)]) (fun x19 a18=>stOf 34 [(6,AV.row 2 (List.length x19))]) (fun x19 a18=>[Ob.var 63 [iA r_u_Mod,AV.sl 1 (List.map encI r_u_Init),AV.sl 1 (List.map encI r_u_Regs),AV.sl 1 (List.map encThr r_u_Code),iA r_model,iA r_v_Outcome,AV.sl 1 (List.map encI r_v_Prefix),AV.sl 1 (List.map encI r_v_Cycle),AV.row 1 (List.length r_v_Results),iA r_v_States,iA r_v_Edges],Ob.row 41 3 (List.map c_api_Result r_v_Results),Ob.row 3 1 (List.map encI x19)]) (fun v=>(AV.tup [AV.sl 1 (List.map encI v.1),bA v.2],[Ob.var 63 [iA r_u_Mod,AV.sl 1 (List.map encI r_u_Init),AV.sl 1 (List.map encI r_u_Regs),AV.sl 1 (List.map encThr r_u_Code),iA r_model,iA r_v_Outcome,AV.sl 1 (List.map encI r_v_Prefix),AV.sl 1 (List.map encI r_v_Cycle),AV.row 1 (List.length r_v_Results),iA r_v_States,iA r_v_Edges],Ob.row 41 3 (List.map c_api_Result r_v_Results)])) (fun k s=>report_reader_path_L0 n v1_names r_u_Mod r_u_Init r_u_Regs r_u_Code r_model k s.1 s.2) (fun s=>rfl) o10 n (0,([]:List Int)) (fun _=>0) ho10 ?_ ?_
 intro k3 ss a4 K5 cont6 hK7 hcont8 h hr9
 obtain ⟨s1,s2⟩:=ss
 replace h:report_reader_path_L0 n v1_names r_u_Mod r_u_Init r_u_Regs r_u_Code r_model (k3+1) s1 s2=some o10:=h
 rw [report_reader_path_L0] at h
 conv=>lhs;whnf
 revert h
 refine br ?_ ?_
 refine ix ?_;intro x12
 refine ca hc (fun y13 h=>(show CN n 46 [AV.agg [iA r_u_Mod,AV.sl 1 (List.map encI r_u_Init),AV.sl 1 (List.map encI r_u_Regs),AV.sl 1 (List.map encThr r_u_Code)],iA r_model,sA x12] []=some (iA y13,[]) from ok_machine_Number (r:=y13) h)) ?_;intro y13
 refine br ?_ ?_
 intro h;cases sj h
 refine (hK7 _ _).trans ?_
 refine Eq.trans ?_ (Eq.symm (show _=some _ from hr9))
 conv=>lhs;whnf
 try simp only [ls]
 exact fq (y:=some (AV.tup [AV.sl 1 [],bA false],[Ob.var 63 [iA r_u_Mod,AV.sl 1 (List.map encI r_u_Init),AV.sl 1 (List.map encI r_u_Regs),AV.sl 1 (List.map encThr r_u_Code),iA r_model,iA r_v_Outcome,AV.sl 1 (List.map encI r_v_Prefix),AV.sl 1 (List.map encI r_v_Cycle),AV.row 1 (List.length r_v_Results),iA r_v_States,iA r_v_Edges],Ob.row 41 3 (List.map c_api_Result r_v_Results)]))
 refine ar (ap encI (List.map encI s2) s2 ([[iA y13]]) ([y13]:List Int)) ?_
 exact fun h=>cq (hcont8 (IntKind.i64.wrap (s1+1),(s2++([y13]:List Int))) (fun _=>0) h)
 intro h;cases sj h
 exact kq (hr9 (fun _=>0))
 refine lrc ?_ ?_
 intro v e;subst e;cases sj h;rfl
 intro x19 a18 e;subst e
 dsimp only at h
 conv=>lhs;whnf
 revert h
 intro h;cases sj h
 try simp only [ls]
 exact fq (y:=some (AV.tup [AV.sl 1 (List.take (List.length x19) (List.map encI x19)),bA true],[Ob.var 63 [iA r_u_Mod,AV.sl 1 (List.map encI r_u_Init),AV.sl 1 (List.map encI r_u_Regs),AV.sl 1 (List.map encThr r_u_Code),iA r_model,iA r_v_Outcome,AV.sl 1 (List.map encI r_v_Prefix),AV.sl 1 (List.map encI r_v_Cycle),AV.row 1 (List.length r_v_Results),iA r_v_States,iA r_v_Edges],Ob.row 41 3 (List.map c_api_Result r_v_Results)]))

theorem ok_report_reader_result {n:Nat} ⦃v1_words:(List (List UInt8))⦄ ⦃r_u_Mod:Int⦄ ⦃r_u_Init:(List Int)⦄ ⦃r_u_Regs:(List Int)⦄ ⦃r_u_Code:(List (List InstrS))⦄ ⦃r_model:Int⦄ ⦃r_v_Outcome:Int⦄ ⦃r_v_Prefix:(List Int)⦄ ⦃r_v_Cycle:(List Int)⦄ ⦃r_v_Results:(List S_api_Result)⦄ ⦃r_v_States:Int⦄ ⦃r_v_Edges:Int⦄ ⦃r:(Bool×(List S_api_Result))⦄:m_report_reader_result n v1_words r_u_Mod r_u_Init r_u_Regs r_u_Code r_model r_v_Outcome r_v_Prefix r_v_Cycle r_v_Results r_v_States r_v_Edges=some r→CN n 40 [AV.ptr 0 0,AV.sl 1 (List.map encS v1_words)] [Ob.var 63 [iA r_u_Mod,AV.sl 1 (List.map encI r_u_Init),AV.sl 1 (List.map encI r_u_Regs),AV.sl 1 (List.map encThr r_u_Code),iA r_model,iA r_v_Outcome,AV.sl 1 (List.map encI r_v_Prefix),AV.sl 1 (List.map encI r_v_Cycle),AV.row 1 (List.length r_v_Results),iA r_v_States,iA r_v_Edges],Ob.row 41 3 (List.map c_api_Result r_v_Results)]=some (bA r.1,[Ob.var 63 [iA r_u_Mod,AV.sl 1 (List.map encI r_u_Init),AV.sl 1 (List.map encI r_u_Regs),AV.sl 1 (List.map encThr r_u_Code),iA r_model,iA r_v_Outcome,AV.sl 1 (List.map encI r_v_Prefix),AV.sl 1 (List.map encI r_v_Cycle),AV.row 1 (List.length r.2),iA r_v_States,iA r_v_Edges],Ob.row 41 3 (List.map c_api_Result r.2)]):=by
 intro h;rcases n with _|n;cases h
 rw [m_report_reader_result] at h
 refine callN_eq' Try.func40 (by rfl) rfl rfl (Nat.le_of_ble_eq_true rfl) ?_
 intro call hc;conv=>lhs;whnf
 revert h
 refine br ?_ ?_
 intro h;cases sj h
 try simp only [ls]
 exact fq (y:=some (bA false,[Ob.var 63 [iA r_u_Mod,AV.sl 1 (List.map encI r_u_Init),AV.sl 1 (List.map encI r_u_Regs),AV.sl 1 (List.map encThr r_u_Code),iA r_model,iA r_v_Outcome,AV.sl 1 (List.map encI r_v_Prefix),AV.sl 1 (List.map encI r_v_Cycle),AV.row 1 (List.length r_v_Results),iA r_v_States,iA r_v_Edges],Ob.row 41 3 (List.map c_api_Result r_v_Results)]))
 refine ix ?_;intro x2
 refine br ?_ ?_
 refine br ?_ ?_
 intro h;cases sj h
 try simp only [ls]
 exact fq (y:=some (bA false,[Ob.var 63 [iA r_u_Mod,AV.sl 1 (List.map encI r_u_Init),AV.sl 1 (List.map encI r_u_Regs),AV.sl 1 (List.map encThr r_u_Code),iA r_model,iA r_v_Outcome,AV.sl 1 (List.map encI r_v_Prefix),AV.sl 1 (List.map encI r_v_Cycle),AV.row 1 (List.length r_v_Results),iA r_v_States,iA r_v_Edges],Ob.row 41 3 (List.map c_api_Result r_v_Results)]))
 refine ix ?_;intro x5
 refine br ?_ ?_
 refine cs (slb encS v1_words ((3:Int).toNat)) ?_
 refine cr hc (fun _ h=>ok_report_reader_path h) ?_;intro y9
 refine br ?_ ?_
 refine ix ?_;intro x12
 refine ar (ap c_api_Result (List.map c_api_Result r_v_Results) r_v_Results ([[bA ((x5==([104,111,108,100,115]:List UInt8))),bA true,AV.sl 1 (List.map encI y9.1)]]) ([(⟨(x5==([104,111,108,100,115]:List UInt8)),true,y9.1⟩:S_api_Result)]:List S_api_Result)) ?_
 intro h;cases sj h
 try simp only [ls]
 exact fq (y:=some (bA ((x12==([98,121]:List UInt8))),[Ob.var 63 [iA r_u_Mod,AV.sl 1 (List.map encI r_u_Init),AV.sl 1 (List.map encI r_u_Regs),AV.sl 1 (List.map encThr r_u_Code),iA r_model,iA r_v_Outcome,AV.sl 1 (List.map encI r_v_Prefix),AV.sl 1 (List.map encI r_v_Cycle),AV.row 1 (List.length ((r_v_Results++([(⟨(x5==([104,111,108,100,115]:List UInt8)),true,y9.1⟩:S_api_Result)]:List S_api_Result)))),iA r_v_States,iA r_v_Edges],Ob.row 41 3 (List.map c_api_Result (r_v_Results++([(⟨(x5==([104,111,108,100,115]:List UInt8)),true,y9.1⟩:S_api_Result)]:List S_api_Result)))]))
 refine ar (ap c_api_Result (List.map c_api_Result r_v_Results) r_v_Results ([[bA ((x5==([104,111,108,100,115]:List UInt8))),bA true,AV.sl 1 (List.map encI y9.1)]]) ([(⟨(x5==([104,111,108,100,115]:List UInt8)),true,y9.1⟩:S_api_Result)]:List S_api_Result)) ?_
 intro h;cases sj h
 try simp only [ls]
 exact fq (y:=some (bA false,[Ob.var 63 [iA r_u_Mod,AV.sl 1 (List.map encI r_u_Init),AV.sl 1 (List.map encI r_u_Regs),AV.sl 1 (List.map encThr r_u_Code),iA r_model,iA r_v_Outcome,AV.sl 1 (List.map encI r_v_Prefix),AV.sl 1 (List.map encI r_v_Cycle),AV.row 1 (List.length ((r_v_Results++([(⟨(x5==([104,111,108,100,115]:List UInt8)),true,y9.1⟩:S_api_Result)]:List S_api_Result)))),iA r_v_States,iA r_v_Edges],Ob.row 41 3 (List.map c_api_Result (r_v_Results++([(⟨(x5==([104,111,108,100,115]:List UInt8)),true,y9.1⟩:S_api_Result)]:List S_api_Result)))]))
 refine ar (ap c_api_Result (List.map c_api_Result r_v_Results) r_v_Results ([[bA ((x5==([104,111,108,100,115]:List UInt8))),bA false,AV.sl 1 []]]) ([(⟨(x5==([104,111,108,100,115]:List UInt8)),false,([]:List Int)⟩:S_api_Result)]:List S_api_Result)) ?_
 intro h;cases sj h
 try simp only [ls]
 exact fq (y:=some (bA true,[Ob.var 63 [iA r_u_Mod,AV.sl 1 (List.map encI r_u_Init),AV.sl 1 (List.map encI r_u_Regs),AV.sl 1 (List.map encThr r_u_Code),iA r_model,iA r_v_Outcome,AV.sl 1 (List.map encI r_v_Prefix),AV.sl 1 (List.map encI r_v_Cycle),AV.row 1 (List.length ((r_v_Results++([(⟨(x5==([104,111,108,100,115]:List UInt8)),false,([]:List Int)⟩:S_api_Result)]:List S_api_Result)))),iA r_v_States,iA r_v_Edges],Ob.row 41 3 (List.map c_api_Result (r_v_Results++([(⟨(x5==([104,111,108,100,115]:List UInt8)),false,([]:List Int)⟩:S_api_Result)]:List S_api_Result)))]))
 refine ix ?_;intro x19
 refine br ?_ ?_
 refine br ?_ ?_
 intro h;cases sj h
 try simp only [ls]
 exact fq (y:=some (bA false,[Ob.var 63 [iA r_u_Mod,AV.sl 1 (List.map encI r_u_Init),AV.sl 1 (List.map encI r_u_Regs),AV.sl 1 (List.map encThr r_u_Code),iA r_model,iA r_v_Outcome,AV.sl 1 (List.map encI r_v_Prefix),AV.sl 1 (List.map encI r_v_Cycle),AV.row 1 (List.length r_v_Results),iA r_v_States,iA r_v_Edges],Ob.row 41 3 (List.map c_api_Result r_v_Results)]))
 refine ix ?_;intro x22
 refine br ?_ ?_
 refine cs (slb encS v1_words ((3:Int).toNat)) ?_
 refine cr hc (fun _ h=>ok_report_reader_path h) ?_;intro y26
 refine br ?_ ?_
 refine ix ?_;intro x29
 refine ar (ap c_api_Result (List.map c_api_Result r_v_Results) r_v_Results ([[bA ((x22==([104,111,108,100,115]:List UInt8))),bA true,AV.sl 1 (List.map encI y26.1)]]) ([(⟨(x22==([104,111,108,100,115]:List UInt8)),true,y26.1⟩:S_api_Result)]:List S_api_Result)) ?_
 intro h;cases sj h
 try simp only [ls]
 exact fq (y:=some (bA ((x29==([98,121]:List UInt8))),[Ob.var 63 [iA r_u_Mod,AV.sl 1 (List.map encI r_u_Init),AV.sl 1 (List.map encI r_u_Regs),AV.sl 1 (List.map encThr r_u_Code),iA r_model,iA r_v_Outcome,AV.sl 1 (List.map encI r_v_Prefix),AV.sl 1 (List.map encI r_v_Cycle),AV.row 1 (List.length ((r_v_Results++([(⟨(x22==([104,111,108,100,115]:List UInt8)),true,y26.1⟩:S_api_Result)]:List S_api_Result)))),iA r_v_States,iA r_v_Edges],Ob.row 41 3 (List.map c_api_Result (r_v_Results++([(⟨(x22==([104,111,108,100,115]:List UInt8)),true,y26.1⟩:S_api_Result)]:List S_api_Result)))]))
 refine ar (ap c_api_Result (List.map c_api_Result r_v_Results) r_v_Results ([[bA ((x22==([104,111,108,100,115]:List UInt8))),bA true,AV.sl 1 (List.map encI y26.1)]]) ([(⟨(x22==([104,111,108,100,115]:List UInt8)),true,y26.1⟩:S_api_Result)]:List S_api_Result)) ?_
 intro h;cases sj h
 try simp only [ls]
 exact fq (y:=some (bA false,[Ob.var 63 [iA r_u_Mod,AV.sl 1 (List.map encI r_u_Init),AV.sl 1 (List.map encI r_u_Regs),AV.sl 1 (List.map encThr r_u_Code),iA r_model,iA r_v_Outcome,AV.sl 1 (List.map encI r_v_Prefix),AV.sl 1 (List.map encI r_v_Cycle),AV.row 1 (List.length ((r_v_Results++([(⟨(x22==([104,111,108,100,115]:List UInt8)),true,y26.1⟩:S_api_Result)]:List S_api_Result)))),iA r_v_States,iA r_v_Edges],Ob.row 41 3 (List.map c_api_Result (r_v_Results++([(⟨(x22==([104,111,108,100,115]:List UInt8)),true,y26.1⟩:S_api_Result)]:List S_api_Result)))]))
 refine ar (ap c_api_Result (List.map c_api_Result r_v_Results) r_v_Results ([[bA ((x22==([104,111,108,100,115]:List UInt8))),bA false,AV.sl 1 []]]) ([(⟨(x22==([104,111,108,100,115]:List UInt8)),false,([]:List Int)⟩:S_api_Result)]:List S_api_Result)) ?_
 intro h;cases sj h
 try simp only [ls]
 exact fq (y:=some (bA true,[Ob.var 63 [iA r_u_Mod,AV.sl 1 (List.map encI r_u_Init),AV.sl 1 (List.map encI r_u_Regs),AV.sl 1 (List.map encThr r_u_Code),iA r_model,iA r_v_Outcome,AV.sl 1 (List.map encI r_v_Prefix),AV.sl 1 (List.map encI r_v_Cycle),AV.row 1 (List.length ((r_v_Results++([(⟨(x22==([104,111,108,100,115]:List UInt8)),false,([]:List Int)⟩:S_api_Result)]:List S_api_Result)))),iA r_v_States,iA r_v_Edges],Ob.row 41 3 (List.map c_api_Result (r_v_Results++([(⟨(x22==([104,111,108,100,115]:List UInt8)),false,([]:List Int)⟩:S_api_Result)]:List S_api_Result)))]))
 intro h;cases sj h
 try simp only [ls]
 exact fq (y:=some (bA false,[Ob.var 63 [iA r_u_Mod,AV.sl 1 (List.map encI r_u_Init),AV.sl 1 (List.map encI r_u_Regs),AV.sl 1 (List.map encThr r_u_Code),iA r_model,iA r_v_Outcome,AV.sl 1 (List.map encI r_v_Prefix),AV.sl 1 (List.map encI r_v_Cycle),AV.row 1 (List.length r_v_Results),iA r_v_States,iA r_v_Edges],Ob.row 41 3 (List.map c_api_Result r_v_Results)]))

theorem ok_report_reader_line {n:Nat} ⦃v1_s:(List UInt8)⦄ ⦃v2_n:Int⦄ ⦃r_u_Mod:Int⦄ ⦃r_u_Init:(List Int)⦄ ⦃r_u_Regs:(List Int)⦄ ⦃r_u_Code:(List (List InstrS))⦄ ⦃r_model:Int⦄ ⦃r_v_Outcome:Int⦄ ⦃r_v_Prefix:(List Int)⦄ ⦃r_v_Cycle:(List Int)⦄ ⦃r_v_Results:(List S_api_Result)⦄ ⦃r_v_States:Int⦄ ⦃r_v_Edges:Int⦄ ⦃r:(Bool×Int×(List Int)×(List Int)×(List S_api_Result)×Int×Int)⦄:m_report_reader_line n v1_s v2_n r_u_Mod r_u_Init r_u_Regs r_u_Code r_model r_v_Outcome r_v_Prefix r_v_Cycle r_v_Results r_v_States r_v_Edges=some r→CN n 27 [AV.ptr 0 0,sA v1_s,iA v2_n] [Ob.var 63 [iA r_u_Mod,AV.sl 1 (List.map encI r_u_Init),AV.sl 1 (List.map encI r_u_Regs),AV.sl 1 (List.map encThr r_u_Code),iA r_model,iA r_v_Outcome,AV.sl 1 (List.map encI r_v_Prefix),AV.sl 1 (List.map encI r_v_Cycle),AV.row 1 (List.length r_v_Results),iA r_v_States,iA r_v_Edges],Ob.row 41 3 (List.map c_api_Result r_v_Results)]=some (bA r.1,[Ob.var 63 [iA r_u_Mod,AV.sl 1 (List.map encI r_u_Init),AV.sl 1 (List.map encI r_u_Regs),AV.sl 1 (List.map encThr r_u_Code),iA r_model,iA r.2.1,AV.sl 1 (List.map encI r.2.2.1),AV.sl 1 (List.map encI r.2.2.2.1),AV.row 1 (List.length r.2.2.2.2.1),iA r.2.2.2.2.2.1,iA r.2.2.2.2.2.2],Ob.row 41 3 (List.map c_api_Result r.2.2.2.2.1)]):=by
 intro h;rcases n with _|n;cases h
 rw [m_report_reader_line] at h
 refine callN_eq' Try.func27 (by rfl) rfl rfl (Nat.le_of_ble_eq_true rfl) ?_
 intro call hc;conv=>lhs;whnf
 revert h
 refine ca hc (fun _ h=>ok_report_cut h) ?_;intro y1
 refine br ?_ ?_
 refine ix ?_;intro x4
 intro h
 refine bind_some2 h ?_;clear h;intro x5 hx5 h
 refine bif_pos (by first|exact idx_in hx5|(have q:=idx_in hx5;exact q)) ?_
 simp only [(show nth? ([[sA (([111,117,116,99,111,109,101]:List UInt8))],[sA (([115,116,97,116,101,115]:List UInt8))],[sA (([101,100,103,101,115]:List UInt8))],[sA (([112,114,101,102,105,120]:List UInt8))],[sA (([99,121,99,108,101]:List UInt8))],[sA (([99,108,97,105,109]:List UInt8))]]:List (List AV)) ((if 5<v2_n then 5 else v2_n)).toNat=some (encS x5) from idx_nth (f:=encS) hx5),ls]
 conv=>lhs;whnf
 revert h
 refine br ?_ ?_
 refine ix ?_;intro x7
 refine br ?_ ?_
 refine ca hc (fun _ h=>ok_report_outcome h) ?_;intro y9
 intro h;cases sj h
 try simp only [ls]
 exact fq (y:=some (bA y9.2,[Ob.var 63 [iA r_u_Mod,AV.sl 1 (List.map encI r_u_Init),AV.sl 1 (List.map encI r_u_Regs),AV.sl 1 (List.map encThr r_u_Code),iA r_model,iA y9.1,AV.sl 1 (List.map encI r_v_Prefix),AV.sl 1 (List.map encI r_v_Cycle),AV.row 1 (List.length r_v_Results),iA r_v_States,iA r_v_Edges],Ob.row 41 3 (List.map c_api_Result r_v_Results)]))
 refine br ?_ ?_
 refine ca hc (fun _ h=>ok_report_number h) ?_;intro y12
 intro h;cases sj h
 try simp only [ls]
 exact fq (y:=some (bA y12.2,[Ob.var 63 [iA r_u_Mod,AV.sl 1 (List.map encI r_u_Init),AV.sl 1 (List.map encI r_u_Regs),AV.sl 1 (List.map encThr r_u_Code),iA r_model,iA r_v_Outcome,AV.sl 1 (List.map encI r_v_Prefix),AV.sl 1 (List.map encI r_v_Cycle),AV.row 1 (List.length r_v_Results),iA y12.1,iA r_v_Edges],Ob.row 41 3 (List.map c_api_Result r_v_Results)]))
 refine br ?_ ?_
 refine ca hc (fun _ h=>ok_report_number h) ?_;intro y15
 intro h;cases sj h
 try simp only [ls]
 exact fq (y:=some (bA y15.2,[Ob.var 63 [iA r_u_Mod,AV.sl 1 (List.map encI r_u_Init),AV.sl 1 (List.map encI r_u_Regs),AV.sl 1 (List.map encThr r_u_Code),iA r_model,iA r_v_Outcome,AV.sl 1 (List.map encI r_v_Prefix),AV.sl 1 (List.map encI r_v_Cycle),AV.row 1 (List.length r_v_Results),iA r_v_States,iA y15.1],Ob.row 41 3 (List.map c_api_Result r_v_Results)]))
 refine br ?_ ?_
 refine cs (slb encS y1.1 ((1:Int).toNat)) ?_
 refine cr hc (fun _ h=>ok_report_reader_path h) ?_;intro y20
 intro h;cases sj h
 try simp only [ls]
 exact fq (y:=some (bA y20.2,[Ob.var 63 [iA r_u_Mod,AV.sl 1 (List.map encI r_u_Init),AV.sl 1 (List.map encI r_u_Regs),AV.sl 1 (List.map encThr r_u_Code),iA r_model,iA r_v_Outcome,AV.sl 1 (List.map encI y20.1),AV.sl 1 (List.map encI r_v_Cycle),AV.row 1 (List.length r_v_Results),iA r_v_States,iA r_v_Edges],Ob.row 41 3 (List.map c_api_Result r_v_Results)]))
 refine br ?_ ?_
 refine cs (slb encS y1.1 ((1:Int).toNat)) ?_
 refine cr hc (fun _ h=>ok_report_reader_path h) ?_;intro y25
 intro h;cases sj h
 try simp only [ls]
 exact fq (y:=some (bA y25.2,[Ob.var 63 [iA r_u_Mod,AV.sl 1 (List.map encI r_u_Init),AV.sl 1 (List.map encI r_u_Regs),AV.sl 1 (List.map encThr r_u_Code),iA r_model,iA r_v_Outcome,AV.sl 1 (List.map encI r_v_Prefix),AV.sl 1 (List.map encI y25.1),AV.row 1 (List.length r_v_Results),iA r_v_States,iA r_v_Edges],Ob.row 41 3 (List.map c_api_Result r_v_Results)]))
 refine br ?_ ?_
 refine cr hc (fun _ h=>ok_report_reader_result h) ?_;intro y28
 intro h;cases sj h
 try simp only [ls]
 exact fq (y:=some (bA y28.1,[Ob.var 63 [iA r_u_Mod,AV.sl 1 (List.map encI r_u_Init),AV.sl 1 (List.map encI r_u_Regs),AV.sl 1 (List.map encThr r_u_Code),iA r_model,iA r_v_Outcome,AV.sl 1 (List.map encI r_v_Prefix),AV.sl 1 (List.map encI r_v_Cycle),AV.row 1 (List.length y28.2),iA r_v_States,iA r_v_Edges],Ob.row 41 3 (List.map c_api_Result y28.2)]))
 intro h;cases sj h
 try simp only [ls]
 exact fq (y:=some (bA true,[Ob.var 63 [iA r_u_Mod,AV.sl 1 (List.map encI r_u_Init),AV.sl 1 (List.map encI r_u_Regs),AV.sl 1 (List.map encThr r_u_Code),iA r_model,iA r_v_Outcome,AV.sl 1 (List.map encI r_v_Prefix),AV.sl 1 (List.map encI r_v_Cycle),AV.row 1 (List.length r_v_Results),iA r_v_States,iA r_v_Edges],Ob.row 41 3 (List.map c_api_Result r_v_Results)]))
 intro h;cases sj h
 try simp only [ls]
 exact fq (y:=some (bA false,[Ob.var 63 [iA r_u_Mod,AV.sl 1 (List.map encI r_u_Init),AV.sl 1 (List.map encI r_u_Regs),AV.sl 1 (List.map encThr r_u_Code),iA r_model,iA r_v_Outcome,AV.sl 1 (List.map encI r_v_Prefix),AV.sl 1 (List.map encI r_v_Cycle),AV.row 1 (List.length r_v_Results),iA r_v_States,iA r_v_Edges],Ob.row 41 3 (List.map c_api_Result r_v_Results)]))
 intro h;cases sj h
 try simp only [ls]
 exact fq (y:=some (bA false,[Ob.var 63 [iA r_u_Mod,AV.sl 1 (List.map encI r_u_Init),AV.sl 1 (List.map encI r_u_Regs),AV.sl 1 (List.map encThr r_u_Code),iA r_model,iA r_v_Outcome,AV.sl 1 (List.map encI r_v_Prefix),AV.sl 1 (List.map encI r_v_Cycle),AV.row 1 (List.length r_v_Results),iA r_v_States,iA r_v_Edges],Ob.row 41 3 (List.map c_api_Result r_v_Results)]))

theorem ok_report_Parse {n:Nat} ⦃v0_u:UnitS⦄ ⦃v1_model:Int⦄ ⦃v2_s:(List UInt8)⦄ ⦃r:(S_api_Verdict×Int×Int)⦄:m_report_Parse n v0_u v1_model v2_s=some r→CN n 13 [AV.agg [iA (v0_u.mod),AV.sl 1 (List.map encI (v0_u.init)),AV.sl 1 (List.map encI (v0_u.regs)),AV.sl 1 (List.map encThr (v0_u.code))],iA v1_model,sA v2_s] []=some (AV.tup [AV.agg [iA r.1.f_Outcome,AV.sl 1 (List.map encI r.1.f_Prefix),AV.sl 1 (List.map encI r.1.f_Cycle),AV.sl 3 (List.map c_api_Result r.1.f_Results),iA r.1.f_States,iA r.1.f_Edges],iA r.2.1,iA r.2.2],[]):=by
 intro h;rcases n with _|n;cases h
 rw [m_report_Parse] at h
 refine callN_eq' Try.func13 (by rfl) rfl rfl (Nat.le_of_ble_eq_true rfl) ?_
 intro call hc;conv=>lhs;whnf
 revert h
 intro h;refine bind_some2 h ?_;clear h;intro o17 ho17 h
 refine lq (σ:=(Int×Int×Int×Int×(List Int)×(List Int)×Int×Int×(List S_api_Result))) (τ:=(Int×Int×Int×(List Int)×(List Int)×Int×Int×(List S_api_Result))) (ν:=(S_api_Verdict×Int×Int)) 0 (fun (s1,s2,s3,s4,s5,s6,s7,s8,s9) a11=>stOf 57 [(2,sA v2_s),(6,AV.ptr 1 0),(9,AV.ptr 2 0),(10,iA s1),(11,iA s2),(18,iA (((v2_s.length:Nat):Int))),(19,iA s3)]) (fun (s1,s2,s3,s4,s5,s6,s7,s8,s9) a11=>[Ob.var 25 [iA (v0_u.mod),AV.sl 1 (List.map encI (v0_u.init)),AV.sl 1 (List.map encI (v0_u.regs)),AV.sl 1 (List.map encThr (v0_u.code))],Ob.var 28 [iA (0),AV.sl 1 [],AV.sl 1 [],AV.row 3 (List.length (([]:List S_api_Result))),iA (0),iA (0)],Ob.var 63 [iA (v0_u.mod),AV.sl 1 (List.map encI (v0_u.init)),AV.sl 1 (List.map encI (v0_u.regs)),AV.sl 1 (List.map encThr (v0_u.code)),iA v1_model,iA s4,AV.sl 1 (List.map encI s5),AV.sl 1 (List.map encI s6),AV.row 4 (List.length s9),iA s7,iA s8],Ob.row 41 3 ([]),Ob.row 41 3 (List.map c_api_Result s9)]) (fun (x26,x27,x28,x29,x30,x31,x32,x33) a25=>stOf 57 [(2,sA v2_s),(6,AV.ptr 1 0),(9,AV.ptr 2 0),(10,iA x26),(11,iA x27)]) (fun (x26,x27,x28,x29,x30,x31,x32,x33) a25=>[Ob.var 25 [iA (v0_u.mod),AV.sl 1 (List.map encI (v0_u.init)),AV.sl 1 (List.map encI (v0_u.regs)),AV.sl 1 (List.map encThr (v0_u.code))],Ob.var 28 [iA (0),AV.sl 1 [],AV.sl 1 [],AV.row 3 (List.length (([]:List S_api_Result))),iA (0),iA (0)],Ob.var 63 [iA (v0_u.mod),AV.sl 1 (List.map encI (v0_u.init)),AV.sl 1 (List.map encI (v0_u.regs)),AV.sl 1 (List.map encThr (v0_u.code)),iA v1_model,iA x28,AV.sl 1 (List.map encI x29),AV.sl 1 (List.map encI x30),AV.row 4 (List.length x33),iA x31,iA x32],Ob.row 41 3 ([]),Ob.row 41 3 (List.map c_api_Result x33)]) (fun v=>(AV.tup [AV.agg [iA v.1.f_Outcome,AV.sl 1 (List.map encI v.1.f_Prefix),AV.sl 1 (List.map encI v.1.f_Cycle),AV.sl 3 (List.map c_api_Result v.1.f_Results),iA v.1.f_States,iA v.1.f_Edges],iA v.2.1,iA v.2.2],[])) (fun k s=>report_Parse_L0 n v0_u v1_model v2_s k s.1 s.2.1 s.2.2.1 s.2.2.2.1 s.2.2.2.2.1 s.2.2.2.2.2.1 s.2.2.2.2.2.2.1 s.2.2.2.2.2.2.2.1 s.2.2.2.2.2.2.2.2) (fun s=>rfl) o17 n (0,0,0,0,([]:List Int),([]:List Int),0,0,([]:List S_api_Result)) (fun _=>0) ho17 ?_ ?_
 intro k10 ss a11 K12 cont13 hK14 hcont15 h hr16
 obtain ⟨s1,s2,s3,s4,s5,s6,s7,s8,s9⟩:=ss
 replace h:report_Parse_L0 n v0_u v1_model v2_s (k10+1) s1 s2 s3 s4 s5 s6 s7 s8 s9=some o17:=h
 rw [report_Parse_L0] at h
 conv=>lhs;whnf
 revert h
 refine br ?_ ?_
 refine ixs ?_;intro x19
 refine br ?_ ?_
 exact fun h=>cq (hcont15 (s1,s2,IntKind.i64.wrap (s3+1),s4,s5,s6,s7,s8,s9) (fun _=>0) h)
 refine cp ?_
 refine cr hc (fun _ h=>ok_report_reader_line h) ?_;intro y22
 refine br ?_ ?_
 exact fun h=>cq (hcont15 (IntKind.i64.wrap (s1+1),IntKind.i64.wrap (s3+1),IntKind.i64.wrap (s3+1),y22.2.1,y22.2.2.1,y22.2.2.2.1,y22.2.2.2.2.2.1,y22.2.2.2.2.2.2,y22.2.2.2.2.1) (fun _=>0) h)
 intro h;cases sj h
 refine (hK14 _ _).trans ?_
 refine Eq.trans ?_ (Eq.symm (show _=some _ from hr16))
 conv=>lhs;whnf
 exact rq
 intro h;cases sj h
 exact kq (hr16 (fun _=>0))
 refine lrc ?_ ?_
 intro v e;subst e;cases sj h;rfl
 intro t a25 e;subst e
 obtain ⟨x26,x27,x28,x29,x30,x31,x32,x33⟩:=t
 dsimp only at h
 conv=>lhs;whnf
 revert h
 refine br ?_ ?_
 exact rz
 refine br ?_ ?_
 exact rz
 intro h;cases sj h
 try simp only [ls]
 exact fq (y:=some (AV.tup [AV.agg [iA x28,AV.sl 1 (List.map encI x29),AV.sl 1 (List.map encI x30),AV.sl 3 (List.take (List.length x33) (List.map c_api_Result x33)),iA x31,iA x32],iA (0),iA (0)],[]))

theorem ok_report_named {n:Nat} ⦃v0_u:UnitS⦄ ⦃v1_model:Int⦄ ⦃v2_paths:(List (List Int))⦄ ⦃r:Bool⦄:m_report_named n v0_u v1_model v2_paths=some r→CN n 18 [AV.agg [iA (v0_u.mod),AV.sl 1 (List.map encI (v0_u.init)),AV.sl 1 (List.map encI (v0_u.regs)),AV.sl 1 (List.map encThr (v0_u.code))],iA v1_model,AV.sl 1 (List.map encRow v2_paths)] []=some (bA r,[]):=by
 intro h;rcases n with _|n;cases h
 rw [m_report_named] at h
 refine callN_eq' Try.func18 (by rfl) rfl rfl (Nat.le_of_ble_eq_true rfl) ?_
 intro call hc;conv=>lhs;whnf
 revert h
 intro h;refine bind_some2 h ?_;clear h;intro o9 ho9 h
 refine lq (σ:=Int) (τ:=Unit) (ν:=Bool) 0 (fun s1 a3=>stOf 30 [(1,iA v1_model),(3,AV.ptr 0 0),(11,AV.sl 1 (List.map encRow v2_paths)),(12,iA (((v2_paths.length:Nat):Int))),(13,iA s1)]) (fun s1 a3=>[Ob.var 25 [iA (v0_u.mod),AV.sl 1 (List.map encI (v0_u.init)),AV.sl 1 (List.map encI (v0_u.regs)),AV.sl 1 (List.map encThr (v0_u.code))]]) (fun _ a28=>stOf 30 []) (fun _ a28=>[Ob.var 25 [iA (v0_u.mod),AV.sl 1 (List.map encI (v0_u.init)),AV.sl 1 (List.map encI (v0_u.regs)),AV.sl 1 (List.map encThr (v0_u.code))]]) (fun v=>(bA v,[])) (fun k s=>report_named_L0 n v0_u v1_model v2_paths k s) (fun s=>rfl) o9 n 0 (fun _=>0) ho9 ?_ ?_
 intro k2 s1 a3 K4 cont5 hK6 hcont7 h hr8
 replace h:report_named_L0 n v0_u v1_model v2_paths (k2+1) s1=some o9:=h
 rw [report_named_L0] at h
 conv=>lhs;whnf
 revert h
 refine br ?_ ?_
 refine ix ?_;intro x11
 intro h;refine bind_some2 h ?_;clear h;intro o20 ho20 h
 refine lq (σ:=Int) (τ:=Unit) (ν:=Bool) 2 (fun s12 a14=>stOf 30 [(1,iA v1_model),(3,AV.ptr 0 0),(11,AV.sl 1 (List.map encRow v2_paths)),(12,iA (((v2_paths.length:Nat):Int))),(13,iA s1),(17,AV.sl 1 (List.map encI x11)),(18,iA (((x11.length:Nat):Int))),(19,iA s12)]) (fun s12 a14=>[Ob.var 25 [iA (v0_u.mod),AV.sl 1 (List.map encI (v0_u.init)),AV.sl 1 (List.map encI (v0_u.regs)),AV.sl 1 (List.map encThr (v0_u.code))]]) (fun _ a26=>stOf 30 [(1,iA v1_model),(3,AV.ptr 0 0),(11,AV.sl 1 (List.map encRow v2_paths)),(12,iA (((v2_paths.length:Nat):Int))),(13,iA s1)]) (fun _ a26=>[Ob.var 25 [iA (v0_u.mod),AV.sl 1 (List.map encI (v0_u.init)),AV.sl 1 (List.map encI (v0_u.regs)),AV.sl 1 (List.map encThr (v0_u.code))]]) (fun v=>(bA v,[])) (fun k s=>report_named_L1 n v0_u v1_model x11 k s) (fun s=>rfl) o20 n 0 (fun _=>0) ho20 ?_ ?_
 intro k13 s12 a14 K15 cont16 hK17 hcont18 h hr19
 replace h:report_named_L1 n v0_u v1_model x11 (k13+1) s12=some o20:=h
 rw [report_named_L1] at h
 conv=>lhs;whnf
 revert h
 refine br ?_ ?_
 refine ix ?_;intro x22
 refine ca hc (fun _ h=>ok_machine_Name h) ?_;intro y23
 refine br ?_ ?_
 intro h;cases sj h
 refine (hK17 _ _).trans ?_
 conv=>lhs;whnf
 refine (hK6 _ _).trans ?_
 refine Eq.trans ?_ (Eq.symm (show _=some _ from hr19))
 conv=>lhs;whnf
 exact rq
 exact fun h=>cq (hcont18 (IntKind.i64.wrap (s12+1)) (fun _=>0) h)
 intro h;cases sj h
 exact kq (hr19 (fun _=>0))
 refine lrc ?_ ?_
 intro v e;subst e;cases sj h;exact hr8
 intro t a26 e;subst e
 dsimp only at h
 conv=>lhs;whnf
 revert h
 exact fun h=>cq (hcont7 (IntKind.i64.wrap (s1+1)) (fun _=>0) h)
 intro h;cases sj h
 exact kq (hr8 (fun _=>0))
 refine lrc ?_ ?_
 intro v e;subst e;cases sj h;rfl
 intro t a28 e;subst e
 dsimp only at h
 conv=>lhs;whnf
 revert h
 exact rz

theorem ok_report_within {n:Nat} ⦃v0_n:Int⦄ ⦃v1_low:Int⦄ ⦃v2_high:Int⦄ ⦃r:Bool⦄:m_report_within n v0_n v1_low v2_high=some r→CN n 17 [iA v0_n,iA v1_low,iA v2_high] []=some (bA r,[]):=by
 intro h;rcases n with _|n;cases h
 rw [m_report_within] at h
 refine callN_eq' Try.func17 (by rfl) rfl rfl (Nat.le_of_ble_eq_true rfl) ?_
 intro call hc;conv=>lhs;whnf
 revert h
 refine br ?_ ?_
 exact rz
 exact rz

theorem ok_report_Right {n:Nat} ⦃v0_u:UnitS⦄ ⦃v1_model:Int⦄ ⦃v2_v:S_api_Verdict⦄ ⦃r:Bool⦄:m_report_Right n v0_u v1_model v2_v=some r→CN n 8 [AV.agg [iA (v0_u.mod),AV.sl 1 (List.map encI (v0_u.init)),AV.sl 1 (List.map encI (v0_u.regs)),AV.sl 1 (List.map encThr (v0_u.code))],iA v1_model,AV.agg [iA v2_v.f_Outcome,AV.sl 1 (List.map encI v2_v.f_Prefix),AV.sl 1 (List.map encI v2_v.f_Cycle),AV.sl 3 (List.map c_api_Result v2_v.f_Results),iA v2_v.f_States,iA v2_v.f_Edges]] []=some (bA r,[]):=by
 intro h;rcases n with _|n;cases h
 rw [m_report_Right] at h
 refine callN_eq' Try.func8 (by rfl) rfl rfl (Nat.le_of_ble_eq_true rfl) ?_
 intro call hc;conv=>lhs;whnf
 revert h
 refine ca hc (fun _ h=>ok_report_within h) ?_;intro y1
 refine br ?_ ?_
 refine ca hc (fun _ h=>ok_report_within h) ?_;intro y4
 refine br ?_ ?_
 refine ca hc (fun _ h=>ok_report_within h) ?_;intro y7
 refine br ?_ ?_
 refine br ?_ ?_
 exact rz
 intro h;refine bind_some2 h ?_;clear h;intro o19 ho19 h
 refine lq (σ:=Int) (τ:=Unit) (ν:=Bool) 0 (fun s11 a13=>stOf 65 [(1,iA v1_model),(3,AV.ptr 0 0),(5,AV.ptr 1 0),(32,AV.sl 3 (List.map c_api_Result v2_v.f_Results)),(33,iA (((v2_v.f_Results.length:Nat):Int))),(34,iA s11)]) (fun s11 a13=>[Ob.var 25 [iA (v0_u.mod),AV.sl 1 (List.map encI (v0_u.init)),AV.sl 1 (List.map encI (v0_u.regs)),AV.sl 1 (List.map encThr (v0_u.code))],Ob.var 28 [iA v2_v.f_Outcome,AV.sl 1 (List.map encI v2_v.f_Prefix),AV.sl 1 (List.map encI v2_v.f_Cycle),AV.sl 3 (List.map c_api_Result v2_v.f_Results),iA v2_v.f_States,iA v2_v.f_Edges]]) (fun _ a27=>stOf 65 [(1,iA v1_model),(3,AV.ptr 0 0),(5,AV.ptr 1 0)]) (fun _ a27=>[Ob.var 25 [iA (v0_u.mod),AV.sl 1 (List.map encI (v0_u.init)),AV.sl 1 (List.map encI (v0_u.regs)),AV.sl 1 (List.map encThr (v0_u.code))],Ob.var 28 [iA v2_v.f_Outcome,AV.sl 1 (List.map encI v2_v.f_Prefix),AV.sl 1 (List.map encI v2_v.f_Cycle),AV.sl 3 (List.map c_api_Result v2_v.f_Results),iA v2_v.f_States,iA v2_v.f_Edges]]) (fun v=>(bA v,[])) (fun k s=>report_Right_L0 n v0_u v1_model v2_v k s) (fun s=>rfl) o19 n 0 (fun _=>0) ho19 ?_ ?_
 intro k12 s11 a13 K14 cont15 hK16 hcont17 h hr18
 replace h:report_Right_L0 n v0_u v1_model v2_v (k12+1) s11=some o19:=h
 rw [report_Right_L0] at h
 conv=>lhs;whnf
 revert h
 refine br ?_ ?_
 refine ix ?_;intro x21
 refine cr hc (fun y22 h=>(show CN n 18 [AV.agg [iA (v0_u.mod),AV.sl 1 (List.map encI (v0_u.init)),AV.sl 1 (List.map encI (v0_u.regs)),AV.sl 1 (List.map encThr (v0_u.code))],iA v1_model,AV.sl 1 [[AV.sl 1 (List.map encI x21.f_Path)]]] []=some (bA y22,[]) from ok_report_named (r:=y22) h)) ?_;intro y22
 refine br ?_ ?_
 refine br ?_ ?_
 exact fun h=>cq (hcont17 (IntKind.i64.wrap (s11+1)) (fun _=>0) h)
 refine br ?_ ?_
 intro h;cases sj h
 refine (hK16 _ _).trans ?_
 refine Eq.trans ?_ (Eq.symm (show _=some _ from hr18))
 conv=>lhs;whnf
 exact rq
 exact fun h=>cq (hcont17 (IntKind.i64.wrap (s11+1)) (fun _=>0) h)
 intro h;cases sj h
 refine (hK16 _ _).trans ?_
 refine Eq.trans ?_ (Eq.symm (show _=some _ from hr18))
 conv=>lhs;whnf
 exact rq
 intro h;cases sj h
 exact kq (hr18 (fun _=>0))
 refine lrc ?_ ?_
 intro v e;subst e;cases sj h;rfl
 intro t a27 e;subst e
 dsimp only at h
 conv=>lhs;whnf
 revert h
 refine cr hc (fun y28 h=>(show CN n 18 [AV.agg [iA (v0_u.mod),AV.sl 1 (List.map encI (v0_u.init)),AV.sl 1 (List.map encI (v0_u.regs)),AV.sl 1 (List.map encThr (v0_u.code))],iA v1_model,AV.sl 1 [[AV.sl 1 (List.map encI v2_v.f_Prefix)],[AV.sl 1 (List.map encI v2_v.f_Cycle)]]] []=some (bA y28,[]) from ok_report_named (r:=y28) h)) ?_;intro y28
 exact rz
 exact rz
 exact rz
 exact rz

end Go.Proofs.Ytmaklniljnbokaa
end

section
namespace Go.Proofs.Ytmaklniljnbokaa
set_option linter.unusedVariables false
set_option linter.unusedSimpArgs false
set_option maxRecDepth 100000
set_option maxHeartbeats 4000000

theorem ok_law24_unit {n:Nat} ⦃r:UnitS⦄:m_law24_unit n=some r→CN n 16 [] []=some (AV.agg [iA (r.mod),AV.sl 1 (List.map encI (r.init)),AV.sl 1 (List.map encI (r.regs)),AV.sl 1 (List.map encThr (r.code))],[]):=by
 intro h;rcases n with _|n;cases h
 rw [m_law24_unit] at h
 refine callN_eq' Try.func16 (by rfl) rfl rfl (Nat.le_of_ble_eq_true rfl) ?_
 intro call hc;conv=>lhs;whnf
 revert h
 exact rz
end Go.Proofs.Ytmaklniljnbokaa
end

section
namespace Go.Proofs.Ytmaklniljnbokaa
set_option linter.unusedVariables false
set_option linter.unusedSimpArgs false
set_option maxRecDepth 100000
set_option maxHeartbeats 4000000

theorem ok_ref07_Ints {n:Nat} ⦃v0_a:(List Int)⦄ ⦃v1_b:(List Int)⦄ ⦃r:Bool⦄:m_ref07_Ints n v0_a v1_b=some r→CN n 29 [AV.sl 1 (List.map encI v0_a),AV.sl 1 (List.map encI v1_b)] []=some (bA r,[]):=by
 intro h;rcases n with _|n;cases h
 rw [m_ref07_Ints] at h
 refine callN_eq' Try.func29 (by rfl) rfl rfl (Nat.le_of_ble_eq_true rfl) ?_
 intro call hc;conv=>lhs;whnf
 revert h
 refine br ?_ ?_
 exact rz
 intro h;refine bind_some2 h ?_;clear h;intro o10 ho10 h
 refine lq (σ:=Int) (τ:=Unit) (ν:=Bool) 0 (fun s2 a4=>stOf 26 [(0,AV.sl 1 (List.map encI v0_a)),(1,AV.sl 1 (List.map encI v1_b)),(5,iA s2)]) (fun s2 a4=>[]) (fun _ a15=>stOf 26 []) (fun _ a15=>[]) (fun v=>(bA v,[])) (fun k s=>ref07_Ints_L0 n v0_a v1_b k s) (fun s=>rfl) o10 n 0 (fun _=>0) ho10 ?_ ?_
 intro k3 s2 a4 K5 cont6 hK7 hcont8 h hr9
 replace h:ref07_Ints_L0 n v0_a v1_b (k3+1) s2=some o10:=h
 rw [ref07_Ints_L0] at h
 conv=>lhs;whnf
 revert h
 refine br ?_ ?_
 refine ix ?_;intro x12
 refine ix ?_;intro x13
 refine br ?_ ?_
 intro h;cases sj h
 refine (hK7 _ _).trans ?_
 refine Eq.trans ?_ (Eq.symm (show _=some _ from hr9))
 conv=>lhs;whnf
 exact rq
 exact fun h=>cq (hcont8 (IntKind.i64.wrap (s2+1)) (fun _=>0) h)
 intro h;cases sj h
 exact kq (hr9 (fun _=>0))
 refine lrc ?_ ?_
 intro v e;subst e;cases sj h;rfl
 intro t a15 e;subst e
 dsimp only at h
 conv=>lhs;whnf
 revert h
 exact rz
end Go.Proofs.Ytmaklniljnbokaa
end

section
namespace Go.Proofs.Ytmaklniljnbokaa
set_option linter.unusedVariables false
set_option linter.unusedSimpArgs false
set_option maxRecDepth 100000
set_option maxHeartbeats 4000000

theorem ok_ref21_Same {n:Nat} ⦃v0_a:(List S_api_Result)⦄ ⦃v1_b:(List S_api_Result)⦄ ⦃r:Bool⦄:m_ref21_Same n v0_a v1_b=some r→CN n 30 [AV.sl 3 (List.map c_api_Result v0_a),AV.sl 3 (List.map c_api_Result v1_b)] []=some (bA r,[]):=by
 intro h;rcases n with _|n;cases h
 rw [m_ref21_Same] at h
 refine callN_eq' Try.func30 (by rfl) rfl rfl (Nat.le_of_ble_eq_true rfl) ?_
 intro call hc;conv=>lhs;whnf
 revert h
 refine br ?_ ?_
 exact rz
 intro h;refine bind_some2 h ?_;clear h;intro o10 ho10 h
 refine lq (σ:=Int) (τ:=Unit) (ν:=Bool) 0 (fun s2 a4=>stOf 55 [(0,AV.sl 3 (List.map c_api_Result v0_a)),(1,AV.sl 3 (List.map c_api_Result v1_b)),(5,iA s2)]) (fun s2 a4=>[]) (fun _ a23=>stOf 55 []) (fun _ a23=>[]) (fun v=>(bA v,[])) (fun k s=>ref21_Same_L0 n v0_a v1_b k s) (fun s=>rfl) o10 n 0 (fun _=>0) ho10 ?_ ?_
 intro k3 s2 a4 K5 cont6 hK7 hcont8 h hr9
 replace h:ref21_Same_L0 n v0_a v1_b (k3+1) s2=some o10:=h
 rw [ref21_Same_L0] at h
 conv=>lhs;whnf
 revert h
 refine br ?_ ?_
 refine ix ?_;intro x12
 refine ix ?_;intro x13
 refine br ?_ ?_
 refine ix ?_;intro x15
 refine ix ?_;intro x16
 refine br ?_ ?_
 refine ix ?_;intro x18
 refine ix ?_;intro x19
 refine ca hc (fun _ h=>ok_ref07_Ints h) ?_;intro y20
 refine br ?_ ?_
 exact fun h=>cq (hcont8 (IntKind.i64.wrap (s2+1)) (fun _=>0) h)
 intro h;cases sj h
 refine (hK7 _ _).trans ?_
 refine Eq.trans ?_ (Eq.symm (show _=some _ from hr9))
 conv=>lhs;whnf
 exact rq
 intro h;cases sj h
 refine (hK7 _ _).trans ?_
 refine Eq.trans ?_ (Eq.symm (show _=some _ from hr9))
 conv=>lhs;whnf
 exact rq
 intro h;cases sj h
 refine (hK7 _ _).trans ?_
 refine Eq.trans ?_ (Eq.symm (show _=some _ from hr9))
 conv=>lhs;whnf
 exact rq
 intro h;cases sj h
 exact kq (hr9 (fun _=>0))
 refine lrc ?_ ?_
 intro v e;subst e;cases sj h;rfl
 intro t a23 e;subst e
 dsimp only at h
 conv=>lhs;whnf
 revert h
 exact rz
end Go.Proofs.Ytmaklniljnbokaa
end

section
namespace Go.Proofs.Ytmaklniljnbokaa
set_option linter.unusedVariables false
set_option linter.unusedSimpArgs false
set_option maxRecDepth 100000
set_option maxHeartbeats 4000000

theorem ok_ref23_Same {n:Nat} ⦃v0_a:S_api_Verdict⦄ ⦃v1_b:S_api_Verdict⦄ ⦃r:Bool⦄:m_ref23_Same n v0_a v1_b=some r→CN n 15 [AV.agg [iA v0_a.f_Outcome,AV.sl 1 (List.map encI v0_a.f_Prefix),AV.sl 1 (List.map encI v0_a.f_Cycle),AV.sl 3 (List.map c_api_Result v0_a.f_Results),iA v0_a.f_States,iA v0_a.f_Edges],AV.agg [iA v1_b.f_Outcome,AV.sl 1 (List.map encI v1_b.f_Prefix),AV.sl 1 (List.map encI v1_b.f_Cycle),AV.sl 3 (List.map c_api_Result v1_b.f_Results),iA v1_b.f_States,iA v1_b.f_Edges]] []=some (bA r,[]):=by
 intro h;rcases n with _|n;cases h
 rw [m_ref23_Same] at h
 refine callN_eq' Try.func15 (by rfl) rfl rfl (Nat.le_of_ble_eq_true rfl) ?_
 intro call hc;conv=>lhs;whnf
 revert h
 refine br ?_ ?_
 refine ca hc (fun _ h=>ok_ref07_Ints h) ?_;intro y2
 refine br ?_ ?_
 refine ca hc (fun _ h=>ok_ref07_Ints h) ?_;intro y5
 refine br ?_ ?_
 refine ca hc (fun _ h=>ok_ref21_Same h) ?_;intro y8
 refine br ?_ ?_
 refine br ?_ ?_
 exact rz
 exact rz
 exact rz
 exact rz
 exact rz
 exact rz
end Go.Proofs.Ytmaklniljnbokaa
end

section
namespace Go.Proofs.Ytmaklniljnbokaa
set_option linter.unusedVariables false
set_option linter.unusedSimpArgs false
set_option maxRecDepth 100000
set_option maxHeartbeats 4000000

theorem ok_law24_known {n:Nat} ⦃r:Bool⦄:m_law24_known n=some r→CN n 7 [] []=some (bA r,[]):=by
 intro h;rcases n with _|n;cases h
 rw [m_law24_known] at h
 refine callN_eq' Try.func7 (by rfl) rfl rfl (Nat.le_of_ble_eq_true rfl) ?_
 intro call hc;conv=>lhs;whnf
 revert h
 refine ca hc (fun _ h=>ok_law24_unit h) ?_;intro y1
 refine cr hc (fun y3 h=>(show CN n 10 [AV.agg [iA (y1.mod),AV.sl 1 (List.map encI (y1.init)),AV.sl 1 (List.map encI (y1.regs)),AV.sl 1 (List.map encThr (y1.code))],iA (2),AV.agg [iA (2),AV.sl 1 [[iA (0)],[iA (1)]],AV.sl 1 [],AV.sl 3 [[bA true,bA false,AV.sl 1 []],[bA false,bA true,AV.sl 1 []],[bA true,bA true,AV.sl 1 [[iA (0)]]]],iA (3),iA (20)]] []=some (sA y3,[]) from ok_report_Show (r:=y3) h)) ?_;intro y3
 refine ca hc (fun _ h=>ok_law24_unit h) ?_;intro y5
 refine ca hc (fun _ h=>ok_report_Parse h) ?_;intro y7
 refine ca hc (fun _ h=>ok_law24_unit h) ?_;intro y9
 refine ca hc (fun _ h=>ok_report_Parse h) ?_;intro y11
 refine ca hc (fun _ h=>ok_law24_unit h) ?_;intro y13
 refine cr hc (fun _ h=>ok_report_Parse h) ?_;intro y15
 refine br ?_ ?_
 refine cr hc (fun y18 h=>(show CN n 15 [AV.agg [iA (2),AV.sl 1 [[iA (0)],[iA (1)]],AV.sl 1 [],AV.sl 3 [[bA true,bA false,AV.sl 1 []],[bA false,bA true,AV.sl 1 []],[bA true,bA true,AV.sl 1 [[iA (0)]]]],iA (3),iA (20)],AV.agg [iA y7.1.f_Outcome,AV.sl 1 (List.map encI y7.1.f_Prefix),AV.sl 1 (List.map encI y7.1.f_Cycle),AV.sl 3 (List.map c_api_Result y7.1.f_Results),iA y7.1.f_States,iA y7.1.f_Edges]] []=some (bA y18,[]) from ok_ref23_Same (r:=y18) h)) ?_;intro y18
 refine br ?_ ?_
 refine br ?_ ?_
 refine br ?_ ?_
 refine br ?_ ?_
 refine br ?_ ?_
 refine br ?_ ?_
 refine br ?_ ?_
 refine ca hc (fun _ h=>ok_law24_unit h) ?_;intro y27
 refine cr hc (fun y29 h=>(show CN n 8 [AV.agg [iA (y27.mod),AV.sl 1 (List.map encI (y27.init)),AV.sl 1 (List.map encI (y27.regs)),AV.sl 1 (List.map encThr (y27.code))],iA (2),AV.agg [iA (2),AV.sl 1 [[iA (0)],[iA (1)]],AV.sl 1 [],AV.sl 3 [[bA true,bA false,AV.sl 1 []],[bA false,bA true,AV.sl 1 []],[bA true,bA true,AV.sl 1 [[iA (0)]]]],iA (3),iA (20)]] []=some (bA y29,[]) from ok_report_Right (r:=y29) h)) ?_;intro y29
 refine br ?_ ?_
 refine ca hc (fun _ h=>ok_law24_unit h) ?_;intro y32
 refine cr hc (fun y34 h=>(show CN n 8 [AV.agg [iA (y32.mod),AV.sl 1 (List.map encI (y32.init)),AV.sl 1 (List.map encI (y32.regs)),AV.sl 1 (List.map encThr (y32.code))],iA (1),AV.agg [iA (2),AV.sl 1 [[iA (0)],[iA (1)]],AV.sl 1 [],AV.sl 3 [[bA true,bA false,AV.sl 1 []],[bA false,bA true,AV.sl 1 []],[bA true,bA true,AV.sl 1 [[iA (0)]]]],iA (3),iA (20)]] []=some (bA y34,[]) from ok_report_Right (r:=y34) h)) ?_;intro y34
 exact rz
 exact rz
 exact rz
 exact rz
 exact rz
 exact rz
 exact rz
 exact rz
 exact rz
 exact rz
end Go.Proofs.Ytmaklniljnbokaa
end

section
namespace Go.Proofs.Ytmaklniljnbokaa
set_option linter.unusedVariables false
set_option linter.unusedSimpArgs false
set_option maxRecDepth 100000
set_option maxHeartbeats 4000000

theorem ok_law24_light {n:Nat} ⦃v0_u:UnitS⦄ ⦃v1_v:S_api_Verdict⦄ ⦃r:Bool⦄:m_law24_light n v0_u v1_v=some r→CN n 6 [AV.agg [iA (v0_u.mod),AV.sl 1 (List.map encI (v0_u.init)),AV.sl 1 (List.map encI (v0_u.regs)),AV.sl 1 (List.map encThr (v0_u.code))],AV.agg [iA v1_v.f_Outcome,AV.sl 1 (List.map encI v1_v.f_Prefix),AV.sl 1 (List.map encI v1_v.f_Cycle),AV.sl 3 (List.map c_api_Result v1_v.f_Results),iA v1_v.f_States,iA v1_v.f_Edges]] []=some (bA r,[]):=by
 intro h;rcases n with _|n;cases h
 rw [m_law24_light] at h
 refine callN_eq' Try.func6 (by rfl) rfl rfl (Nat.le_of_ble_eq_true rfl) ?_
 intro call hc;conv=>lhs;whnf
 revert h
 refine ca hc (fun _ h=>ok_ref07_Light h) ?_;intro y1
 refine br ?_ ?_
 refine br ?_ ?_
 exact rz
 refine br ?_ ?_
 exact rz
 refine br ?_ ?_
 exact rz
 intro h;refine bind_some2 h ?_;clear h;intro o15 ho15 h
 refine lq (σ:=Int) (τ:=Unit) (ν:=Bool) 0 (fun s7 a9=>stOf 42 [(3,AV.ptr 1 0),(5,iA s7)]) (fun s7 a9=>[Ob.var 25 [iA (v0_u.mod),AV.sl 1 (List.map encI (v0_u.init)),AV.sl 1 (List.map encI (v0_u.regs)),AV.sl 1 (List.map encThr (v0_u.code))],Ob.var 28 [iA v1_v.f_Outcome,AV.sl 1 (List.map encI v1_v.f_Prefix),AV.sl 1 (List.map encI v1_v.f_Cycle),AV.sl 3 (List.map c_api_Result v1_v.f_Results),iA v1_v.f_States,iA v1_v.f_Edges]]) (fun _ a19=>stOf 42 []) (fun _ a19=>[Ob.var 25 [iA (v0_u.mod),AV.sl 1 (List.map encI (v0_u.init)),AV.sl 1 (List.map encI (v0_u.regs)),AV.sl 1 (List.map encThr (v0_u.code))],Ob.var 28 [iA v1_v.f_Outcome,AV.sl 1 (List.map encI v1_v.f_Prefix),AV.sl 1 (List.map encI v1_v.f_Cycle),AV.sl 3 (List.map c_api_Result v1_v.f_Results),iA v1_v.f_States,iA v1_v.f_Edges]]) (fun v=>(bA v,[])) (fun k s=>law24_light_L0 n v1_v k s) (fun s=>rfl) o15 n 0 (fun _=>0) ho15 ?_ ?_
 intro k8 s7 a9 K10 cont11 hK12 hcont13 h hr14
 replace h:law24_light_L0 n v1_v (k8+1) s7=some o15:=h
 rw [law24_light_L0] at h
 conv=>lhs;whnf
 revert h
 refine br ?_ ?_
 refine ix ?_;intro x17
 refine br ?_ ?_
 intro h;cases sj h
 refine (hK12 _ _).trans ?_
 refine Eq.trans ?_ (Eq.symm (show _=some _ from hr14))
 conv=>lhs;whnf
 exact rq
 exact fun h=>cq (hcont13 (IntKind.i64.wrap (s7+1)) (fun _=>0) h)
 intro h;cases sj h
 exact kq (hr14 (fun _=>0))
 refine lrc ?_ ?_
 intro v e;subst e;cases sj h;rfl
 intro t a19 e;subst e
 dsimp only at h
 conv=>lhs;whnf
 revert h
 exact rz
 exact rz
end Go.Proofs.Ytmaklniljnbokaa
end

section
namespace Go.Proofs.Ytmaklniljnbokaa
set_option linter.unusedVariables false
set_option linter.unusedSimpArgs false
set_option maxRecDepth 100000
set_option maxHeartbeats 4000000

theorem ok_law24_ReportBack {n:Nat} ⦃v0_u:UnitS⦄ ⦃v1_v:S_api_Verdict⦄ ⦃v2_s:(List UInt8)⦄ ⦃r:Bool⦄:m_law24_ReportBack n v0_u v1_v v2_s=some r→CN n 5 [AV.agg [iA (v0_u.mod),AV.sl 1 (List.map encI (v0_u.init)),AV.sl 1 (List.map encI (v0_u.regs)),AV.sl 1 (List.map encThr (v0_u.code))],AV.agg [iA v1_v.f_Outcome,AV.sl 1 (List.map encI v1_v.f_Prefix),AV.sl 1 (List.map encI v1_v.f_Cycle),AV.sl 3 (List.map c_api_Result v1_v.f_Results),iA v1_v.f_States,iA v1_v.f_Edges],sA v2_s] []=some (bA r,[]):=by
 intro h;rcases n with _|n;cases h
 rw [m_law24_ReportBack] at h
 refine callN_eq' Try.func5 (by rfl) rfl rfl (Nat.le_of_ble_eq_true rfl) ?_
 intro call hc;conv=>lhs;whnf
 revert h
 refine ca hc (fun _ h=>ok_law24_light h) ?_;intro y1
 refine br ?_ ?_
 refine br ?_ ?_
 refine ca hc (fun _ h=>ok_law24_known h) ?_;intro y5
 exact rz
 intro h;refine bind_some2 h ?_;clear h;intro o15 ho15 h
 refine lq (σ:=Int) (τ:=Unit) (ν:=Bool) 0 (fun s7 a9=>stOf 90 [(2,sA v2_s),(3,AV.ptr 0 0),(4,AV.ptr 1 0),(7,iA s7)]) (fun s7 a9=>[Ob.var 25 [iA (v0_u.mod),AV.sl 1 (List.map encI (v0_u.init)),AV.sl 1 (List.map encI (v0_u.regs)),AV.sl 1 (List.map encThr (v0_u.code))],Ob.var 28 [iA v1_v.f_Outcome,AV.sl 1 (List.map encI v1_v.f_Prefix),AV.sl 1 (List.map encI v1_v.f_Cycle),AV.sl 3 (List.map c_api_Result v1_v.f_Results),iA v1_v.f_States,iA v1_v.f_Edges]]) (fun _ a75=>stOf 90 []) (fun _ a75=>[Ob.var 25 [iA (v0_u.mod),AV.sl 1 (List.map encI (v0_u.init)),AV.sl 1 (List.map encI (v0_u.regs)),AV.sl 1 (List.map encThr (v0_u.code))],Ob.var 28 [iA v1_v.f_Outcome,AV.sl 1 (List.map encI v1_v.f_Prefix),AV.sl 1 (List.map encI v1_v.f_Cycle),AV.sl 3 (List.map c_api_Result v1_v.f_Results),iA v1_v.f_States,iA v1_v.f_Edges]]) (fun v=>(bA v,[])) (fun k s=>law24_ReportBack_L0 n v0_u v1_v v2_s k s) (fun s=>rfl) o15 n 1 (fun _=>0) ho15 ?_ ?_
 intro k8 s7 a9 K10 cont11 hK12 hcont13 h hr14
 replace h:law24_ReportBack_L0 n v0_u v1_v v2_s (k8+1) s7=some o15:=h
 rw [law24_ReportBack_L0] at h
 conv=>lhs;whnf
 revert h
 refine br ?_ ?_
 refine ca hc (fun _ h=>ok_report_Parse h) ?_;intro y17
 refine br ?_ ?_
 refine ca hc (fun _ h=>ok_report_Right h) ?_;intro y20
 refine br ?_ ?_
 refine ca hc (fun _ h=>ok_report_Show h) ?_;intro y23
 refine br ?_ ?_
 refine br ?_ ?_
 intro h;cases sj h
 refine (hK12 _ _).trans ?_
 refine Eq.trans ?_ (Eq.symm (show _=some _ from hr14))
 conv=>lhs;whnf
 exact rq
 refine br ?_ ?_
 refine br ?_ ?_
 intro h;cases sj h
 refine (hK12 _ _).trans ?_
 refine Eq.trans ?_ (Eq.symm (show _=some _ from hr14))
 conv=>lhs;whnf
 exact rq
 refine ca hc (fun _ h=>ok_report_Right h) ?_;intro y29
 refine br ?_ ?_
 refine ca hc (fun _ h=>ok_report_Show h) ?_;intro y32
 refine ca hc (fun _ h=>ok_report_Parse h) ?_;intro y34
 refine br ?_ ?_
 intro h;cases sj h
 refine (hK12 _ _).trans ?_
 refine Eq.trans ?_ (Eq.symm (show _=some _ from hr14))
 conv=>lhs;whnf
 exact rq
 refine ca hc (fun _ h=>ok_ref23_Same h) ?_;intro y37
 refine br ?_ ?_
 exact fun h=>cq (hcont13 (IntKind.i64.wrap (s7+1)) (fun _=>0) h)
 intro h;cases sj h
 refine (hK12 _ _).trans ?_
 refine Eq.trans ?_ (Eq.symm (show _=some _ from hr14))
 conv=>lhs;whnf
 exact rq
 exact fun h=>cq (hcont13 (IntKind.i64.wrap (s7+1)) (fun _=>0) h)
 refine ca hc (fun _ h=>ok_report_Right h) ?_;intro y40
 refine br ?_ ?_
 refine ca hc (fun _ h=>ok_report_Show h) ?_;intro y43
 refine ca hc (fun _ h=>ok_report_Parse h) ?_;intro y45
 refine br ?_ ?_
 intro h;cases sj h
 refine (hK12 _ _).trans ?_
 refine Eq.trans ?_ (Eq.symm (show _=some _ from hr14))
 conv=>lhs;whnf
 exact rq
 refine ca hc (fun _ h=>ok_ref23_Same h) ?_;intro y48
 refine br ?_ ?_
 exact fun h=>cq (hcont13 (IntKind.i64.wrap (s7+1)) (fun _=>0) h)
 intro h;cases sj h
 refine (hK12 _ _).trans ?_
 refine Eq.trans ?_ (Eq.symm (show _=some _ from hr14))
 conv=>lhs;whnf
 exact rq
 exact fun h=>cq (hcont13 (IntKind.i64.wrap (s7+1)) (fun _=>0) h)
 intro h;cases sj h
 refine (hK12 _ _).trans ?_
 refine Eq.trans ?_ (Eq.symm (show _=some _ from hr14))
 conv=>lhs;whnf
 exact rq
 intro h;cases sj h
 refine (hK12 _ _).trans ?_
 refine Eq.trans ?_ (Eq.symm (show _=some _ from hr14))
 conv=>lhs;whnf
 exact rq
 refine br ?_ ?_
 refine br ?_ ?_
 intro h;cases sj h
 refine (hK12 _ _).trans ?_
 refine Eq.trans ?_ (Eq.symm (show _=some _ from hr14))
 conv=>lhs;whnf
 exact rq
 refine ca hc (fun _ h=>ok_report_Right h) ?_;intro y53
 refine br ?_ ?_
 refine ca hc (fun _ h=>ok_report_Show h) ?_;intro y56
 refine ca hc (fun _ h=>ok_report_Parse h) ?_;intro y58
 refine br ?_ ?_
 intro h;cases sj h
 refine (hK12 _ _).trans ?_
 refine Eq.trans ?_ (Eq.symm (show _=some _ from hr14))
 conv=>lhs;whnf
 exact rq
 refine ca hc (fun _ h=>ok_ref23_Same h) ?_;intro y61
 refine br ?_ ?_
 exact fun h=>cq (hcont13 (IntKind.i64.wrap (s7+1)) (fun _=>0) h)
 intro h;cases sj h
 refine (hK12 _ _).trans ?_
 refine Eq.trans ?_ (Eq.symm (show _=some _ from hr14))
 conv=>lhs;whnf
 exact rq
 exact fun h=>cq (hcont13 (IntKind.i64.wrap (s7+1)) (fun _=>0) h)
 refine ca hc (fun _ h=>ok_report_Right h) ?_;intro y64
 refine br ?_ ?_
 refine ca hc (fun _ h=>ok_report_Show h) ?_;intro y67
 refine ca hc (fun _ h=>ok_report_Parse h) ?_;intro y69
 refine br ?_ ?_
 intro h;cases sj h
 refine (hK12 _ _).trans ?_
 refine Eq.trans ?_ (Eq.symm (show _=some _ from hr14))
 conv=>lhs;whnf
 exact rq
 refine ca hc (fun _ h=>ok_ref23_Same h) ?_;intro y72
 refine br ?_ ?_
 exact fun h=>cq (hcont13 (IntKind.i64.wrap (s7+1)) (fun _=>0) h)
 intro h;cases sj h
 refine (hK12 _ _).trans ?_
 refine Eq.trans ?_ (Eq.symm (show _=some _ from hr14))
 conv=>lhs;whnf
 exact rq
 exact fun h=>cq (hcont13 (IntKind.i64.wrap (s7+1)) (fun _=>0) h)
 intro h;cases sj h
 exact kq (hr14 (fun _=>0))
 refine lrc ?_ ?_
 intro v e;subst e;cases sj h;rfl
 intro t a75 e;subst e
 dsimp only at h
 conv=>lhs;whnf
 revert h
 refine ca hc (fun _ h=>ok_law24_known h) ?_;intro y76
 exact rz
 refine ca hc (fun _ h=>ok_law24_known h) ?_;intro y79
 exact rz
end Go.Proofs.Ytmaklniljnbokaa
end

