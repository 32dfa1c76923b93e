/- Parts of the proofs: what they lean on. Conditions: none. -/
import Derived.Test.YtmnnkeejgkhgpaaProg
import Derived.Test.YtmnnkeejgkhgpaaCodeS10
section
namespace Go.Proofs.Ytmnnkeejgkhgpaa
open Go.RowKit Go.WideShapes
set_option linter.unusedVariables false
set_option linter.unusedSimpArgs false

theorem okWide_struct' {P : Program} {w : World} {r : Reach} {base : Nat} {t : TypeId} {v : Value} {fs : Array Field} (ht : P.underlying t = some (.struct fs)) (h : Value.okWide P w r base t v) : ∃ cs, v = .agg cs := by
  simp only [Value.okWide, ht] at h
  obtain ⟨cs, rfl, _⟩ := h
  exact ⟨cs, rfl⟩
end Go.Proofs.Ytmnnkeejgkhgpaa
end

section
namespace Go.Proofs.Ytmnnkeejgkhgpaa
set_option linter.unusedVariables false
set_option linter.unusedSimpArgs false
theorem rep_agg {α : Type} {r : Rd α} {enc : α → List AV} (he : Enc r enc) {W : World} {cs : Array Value} {x : α} (h : r.rel W (Value.agg cs).cells.toList x) : Rep (SAll W) W [] [] (.agg (enc x)) (.agg cs) := by
  obtain ⟨h1, h2⟩ := he _ _ _ h
  cases cs
  exact .agg _ _ _ _ h1 h2
theorem rep_one {α : Type} {r : Rd α} {f : α → AV} (he : Enc r (fun x => [f x])) {W : World} {s : Option Addr} {len cap : Nat} {x : α} (h : r.rel W (Value.slice s len cap).cells.toList x) : Rep (SAll W) W [] [] (f x) (.slice s len cap) := by
  obtain ⟨h1, _⟩ := he _ _ _ h
  cases h1 with | cons _ _ _ _ _ _ h t => exact h
def rd_int_i64 : Rd Int := rInt .i64
theorem op_int_i64 : Opens Try.prog 3 rd_int_i64 := opens_int Try.underlying3 (by kernel_rfl)
theorem en_int_i64 : Enc rd_int_i64 encI := enc_int _
def rd_api_Op : Rd OpS := rMap (fun x => ⟨x.1, x.2.1, x.2.2⟩) (rPair rd_int_i64 (rPair rd_int_i64 rd_int_i64))
theorem op_api_Op : Opens Try.prog 53 rd_api_Op := opens_map _ (opens_struct Try.underlying53 (by kernel_rfl) (fields_cons rfl op_int_i64 (fields_cons rfl op_int_i64 (fields_one rfl op_int_i64) (by decide)) (by decide)))
theorem en_api_Op : Enc rd_api_Op encOp := enc_map (fun _ => rfl) (enc_pair en_int_i64 (enc_pair en_int_i64 en_int_i64))
def rd_sl_api_Op : Rd (List OpS) := rSlice rd_api_Op
theorem op_sl_api_Op : Opens Try.prog 32 rd_sl_api_Op := opens_slice Try.underlying32 (by kernel_rfl) op_api_Op (by decide)
theorem en_sl_api_Op : Enc rd_sl_api_Op (fun l => [AV.sl 3 (l.map encOp)]) := enc_slice en_api_Op
def rd_sl_int : Rd (List Int) := rSlice rd_int_i64
theorem op_sl_int : Opens Try.prog 38 rd_sl_int := opens_slice Try.underlying38 (by kernel_rfl) op_int_i64 (by decide)
theorem en_sl_int : Enc rd_sl_int (fun l => [AV.sl 1 (l.map encI)]) := enc_slice en_int_i64
def rd_sl_sl_int : Rd (List (List Int)) := rSlice rd_sl_int
theorem op_sl_sl_int : Opens Try.prog 39 rd_sl_sl_int := opens_slice Try.underlying39 (by kernel_rfl) op_sl_int (by decide)
theorem en_sl_sl_int : Enc rd_sl_sl_int (fun l => [AV.sl 1 (l.map encRow)]) := enc_slice en_sl_int
def rd_law06_State : Rd S_law06_State := rMap (fun x => ⟨x.1, x.2.1, x.2.2.1, x.2.2.2⟩) (rPair rd_int_i64 (rPair rd_sl_int (rPair rd_sl_sl_int rd_sl_int)))
theorem op_law06_State : Opens Try.prog 41 rd_law06_State := opens_map _ (opens_struct Try.underlying41 (by kernel_rfl) (fields_cons rfl op_int_i64 (fields_cons rfl op_sl_int (fields_cons rfl op_sl_sl_int (fields_one rfl op_sl_int) (by decide)) (by decide)) (by decide)))
theorem en_law06_State : Enc rd_law06_State c_law06_State := enc_map (fun _ => rfl) (enc_pair en_int_i64 (enc_pair en_sl_int (enc_pair en_sl_sl_int en_sl_int)))
end Go.Proofs.Ytmnnkeejgkhgpaa
end

section
namespace Go.Proofs.Ytmnnkeejgkhgpaa
set_option linter.unusedVariables false
set_option linter.unusedSimpArgs false
set_option maxRecDepth 100000

inductive R_ref06_made where
  | c0 (x : (List OpS))
  | c1 (x : (Nat × Nat))
def ref06_lies_L0 (n : Nat)  (v0_l : (List OpS)) : Nat → Int → Int → Int → Option (LR (Int × Int) (Int × Int))
  | 0, _, _, _ => none
  | k4+1, s1, s2, s3 => (bif decide (s3 < (((v0_l).length : Nat) : Int)) then ((idx v0_l s3).bind fun x13 => (bif decide (1 ≤ x13.op) then (bif decide (x13.op ≤ 4) then (ref06_lies_L0 n v0_l k4 (IntKind.i64.wrap (s1 + 1)) (if s2 < (IntKind.i64.wrap (s1 + 1)) then (IntKind.i64.wrap (s1 + 1)) else s2) (IntKind.i64.wrap (s3 + 1))) else (bif (x13.op == 5) then (bif decide (1 ≤ s1) then (ref06_lies_L0 n v0_l k4 s1 (if s2 < s1 then s1 else s2) (IntKind.i64.wrap (s3 + 1))) else (bif decide (6 ≤ x13.op) then (bif decide (x13.op ≤ 14) then (bif decide (2 ≤ s1) then (ref06_lies_L0 n v0_l k4 (IntKind.i64.wrap (s1 - 1)) (if s2 < (IntKind.i64.wrap (s1 - 1)) then (IntKind.i64.wrap (s1 - 1)) else s2) (IntKind.i64.wrap (s3 + 1))) else (some (.ret ((-1), (-1))))) else (some (.ret ((-1), (-1))))) else (some (.ret ((-1), (-1)))))) else (bif decide (6 ≤ x13.op) then (bif decide (x13.op ≤ 14) then (bif decide (2 ≤ s1) then (ref06_lies_L0 n v0_l k4 (IntKind.i64.wrap (s1 - 1)) (if s2 < (IntKind.i64.wrap (s1 - 1)) then (IntKind.i64.wrap (s1 - 1)) else s2) (IntKind.i64.wrap (s3 + 1))) else (some (.ret ((-1), (-1))))) else (some (.ret ((-1), (-1))))) else (some (.ret ((-1), (-1))))))) else (bif (x13.op == 5) then (bif decide (1 ≤ s1) then (ref06_lies_L0 n v0_l k4 s1 (if s2 < s1 then s1 else s2) (IntKind.i64.wrap (s3 + 1))) else (bif decide (6 ≤ x13.op) then (bif decide (x13.op ≤ 14) then (bif decide (2 ≤ s1) then (ref06_lies_L0 n v0_l k4 (IntKind.i64.wrap (s1 - 1)) (if s2 < (IntKind.i64.wrap (s1 - 1)) then (IntKind.i64.wrap (s1 - 1)) else s2) (IntKind.i64.wrap (s3 + 1))) else (some (.ret ((-1), (-1))))) else (some (.ret ((-1), (-1))))) else (some (.ret ((-1), (-1)))))) else (bif decide (6 ≤ x13.op) then (bif decide (x13.op ≤ 14) then (bif decide (2 ≤ s1) then (ref06_lies_L0 n v0_l k4 (IntKind.i64.wrap (s1 - 1)) (if s2 < (IntKind.i64.wrap (s1 - 1)) then (IntKind.i64.wrap (s1 - 1)) else s2) (IntKind.i64.wrap (s3 + 1))) else (some (.ret ((-1), (-1))))) else (some (.ret ((-1), (-1))))) else (some (.ret ((-1), (-1)))))))) else (some (.out (s1, s2))))
def m_ref06_lies : Nat → (List OpS) → Option (Int × Int)
  | 0, _ => none
  | n+1, v0_l => ((ref06_lies_L0 n v0_l n 0 0 0).bind fun o11 => match o11 with | .out (x33, x34) => (some (x33, x34)) | .ret v => some v)

def m_ref06_Depth : Nat → (List OpS) → Option Int
  | 0, _ => none
  | n+1, v0_l => ((m_ref06_lies n v0_l).bind fun y1 => (some ((y1).2)))

def m_ref06_in : Nat → Int → Int → Option Bool
  | 0, _, _ => none
  | n+1, v0_n, v1_most => (bif decide (0 ≤ v0_n) then (some (decide (v0_n < v1_most))) else (some false))

def ref06_Right_L0 (n : Nat)  (v0_l : (List OpS)) (v1_regs : (List Int)) (v2_own : Int) (v3_locs : Int) : Nat → Int → Option (LR Unit Bool)
  | 0, _ => none
  | k2+1, s1 => (bif decide (s1 < (((v0_l).length : Nat) : Int)) then ((idx v0_l s1).bind fun x11 => (bif (x11.op == 1) then ((m_ref06_in n x11.n 10000).bind fun y13 => (bif y13 then (ref06_Right_L0 n v0_l v1_regs v2_own v3_locs k2 (IntKind.i64.wrap (s1 + 1))) else (some (.ret false)))) else (bif (x11.op == 2) then ((m_ref06_in n x11.n v2_own).bind fun y17 => (bif y17 then (ref06_Right_L0 n v0_l v1_regs v2_own v3_locs k2 (IntKind.i64.wrap (s1 + 1))) else (some (.ret false)))) else (bif (x11.op == 3) then ((m_ref06_in n x11.n v3_locs).bind fun y21 => (bif y21 then (ref06_Right_L0 n v0_l v1_regs v2_own v3_locs k2 (IntKind.i64.wrap (s1 + 1))) else (some (.ret false)))) else (bif (x11.op == 4) then ((m_ref06_in n x11.t (((v1_regs).length : Nat) : Int)).bind fun y25 => (bif y25 then ((idx v1_regs x11.t).bind fun x28 => ((m_ref06_in n x11.n x28).bind fun y29 => (bif y29 then (ref06_Right_L0 n v0_l v1_regs v2_own v3_locs k2 (IntKind.i64.wrap (s1 + 1))) else (some (.ret false))))) else (some (.ret false)))) else (ref06_Right_L0 n v0_l v1_regs v2_own v3_locs k2 (IntKind.i64.wrap (s1 + 1)))))))) else (some (.out ())))
def m_ref06_Right : Nat → (List OpS) → (List Int) → Int → Int → Option Bool
  | 0, _, _, _, _ => none
  | n+1, v0_l, v1_regs, v2_own, v3_locs => ((ref06_Right_L0 n v0_l v1_regs v2_own v3_locs n 0).bind fun o9 => match o9 with | .out _ => ((m_ref06_lies n v0_l).bind fun y33 => (some (((y33).1) == 1))) | .ret v => some v)

def ref06_All_L0 (n : Nat)  (v0_l : (List Int)) (v1_mod : Int) : Nat → Int → Option (LR Unit Bool)
  | 0, _ => none
  | k2+1, s1 => (bif decide (s1 < (((v0_l).length : Nat) : Int)) then ((idx v0_l s1).bind fun x11 => ((m_ref06_in n x11 v1_mod).bind fun y12 => (bif y12 then (ref06_All_L0 n v0_l v1_mod k2 (IntKind.i64.wrap (s1 + 1))) else (some (.ret false))))) else (some (.out ())))
def m_ref06_All : Nat → (List Int) → Int → Option Bool
  | 0, _, _ => none
  | n+1, v0_l, v1_mod => ((ref06_All_L0 n v0_l v1_mod n 0).bind fun o9 => match o9 with | .out _ => (some true) | .ret v => some v)

def m_ref06_truth : Nat → Bool → Option Int
  | 0, _ => none
  | n+1, v0_is => (bif v0_is then (some 1) else (some 0))

def m_ref06_two : Nat → Int → Int → Int → Int → Option Int
  | 0, _, _, _, _ => none
  | n+1, v0_op, v1_a, v2_b, v3_mod => (bif (v0_op == 6) then (bif decide (v3_mod = 0) then none else (some (Int.tmod (IntKind.i64.wrap (v1_a + v2_b)) v3_mod))) else (bif (v0_op == 7) then (bif decide (v3_mod = 0) then none else (some (Int.tmod (IntKind.i64.wrap ((IntKind.i64.wrap (v1_a - v2_b)) + v3_mod)) v3_mod))) else (bif (v0_op == 8) then (bif decide (v3_mod = 0) then none else (some (Int.tmod (IntKind.i64.wrap (v1_a * v2_b)) v3_mod))) else (bif (v0_op == 9) then ((m_ref06_truth n (v1_a == v2_b)).bind fun y8 => (some y8)) else (bif (v0_op == 10) then ((m_ref06_truth n (v1_a != v2_b)).bind fun y11 => (some y11)) else (bif (v0_op == 11) then ((m_ref06_truth n (decide (v1_a < v2_b))).bind fun y14 => (some y14)) else (bif (v0_op == 12) then ((m_ref06_truth n (decide (v1_a ≤ v2_b))).bind fun y17 => (some y17)) else (bif (v0_op == 13) then (bif (v1_a != 0) then ((m_ref06_truth n (v2_b != 0)).bind fun y21 => (some y21)) else ((m_ref06_truth n false).bind fun y23 => (some y23))) else (bif (v1_a != 0) then ((m_ref06_truth n true).bind fun y26 => (some y26)) else ((m_ref06_truth n (v2_b != 0)).bind fun y28 => (some y28)))))))))))

def ref06_Value_L0 (n : Nat)  (v1_mod : Int) (v3_all : (List (List Int))) : Nat → Int → (List Int) → Option (LR (List Int) (Int × Bool))
  | 0, _, _ => none
  | k11+1, s9, s10 => (bif decide (s9 < (((v3_all).length : Nat) : Int)) then ((idx v3_all s9).bind fun x20 => ((m_ref06_All n x20 v1_mod).bind fun y21 => (bif y21 then ((idx v3_all s9).bind fun x24 => (bif decide (((s10).length + 1) * 9 ≤ 140737488355328) then (ref06_Value_L0 n v1_mod v3_all k11 (IntKind.i64.wrap (s9 + 1)) (s10 ++ ([(((x24).length : Nat) : Int)] : List Int))) else none)) else (some (.ret (0, false)))))) else (some (.out s10)))
def ref06_Value_L1 (n : Nat)  (v0_l : (List OpS)) (v1_mod : Int) (v2_own : (List Int)) (v3_all : (List (List Int))) (v4_mem : (List Int)) : Nat → Int → (List Int) → Option (LR (List Int) (Int × Bool))
  | 0, _, _ => none
  | k35+1, s33, s34 => (bif decide (s33 < (((v0_l).length : Nat) : Int)) then ((idx v0_l s33).bind fun x44 => (bif (x44.op == 1) then (bif decide (v1_mod = 0) then none else (bif decide (((s34).length + 1) * 9 ≤ 140737488355328) then (ref06_Value_L1 n v0_l v1_mod v2_own v3_all v4_mem k35 (IntKind.i64.wrap (s33 + 1)) (s34 ++ ([(Int.tmod x44.n v1_mod)] : List Int))) else none)) else (bif (x44.op == 2) then ((idx v2_own x44.n).bind fun x51 => (bif decide (((s34).length + 1) * 9 ≤ 140737488355328) then (ref06_Value_L1 n v0_l v1_mod v2_own v3_all v4_mem k35 (IntKind.i64.wrap (s33 + 1)) (s34 ++ ([x51] : List Int))) else none)) else (bif (x44.op == 3) then ((idx v4_mem x44.n).bind fun x56 => (bif decide (((s34).length + 1) * 9 ≤ 140737488355328) then (ref06_Value_L1 n v0_l v1_mod v2_own v3_all v4_mem k35 (IntKind.i64.wrap (s33 + 1)) (s34 ++ ([x56] : List Int))) else none)) else (bif (x44.op == 4) then ((idx v3_all x44.t).bind fun x61 => ((idx x61 x44.n).bind fun x62 => (bif decide (((s34).length + 1) * 9 ≤ 140737488355328) then (ref06_Value_L1 n v0_l v1_mod v2_own v3_all v4_mem k35 (IntKind.i64.wrap (s33 + 1)) (s34 ++ ([x62] : List Int))) else none))) else (bif (x44.op == 5) then ((idx s34 (IntKind.i64.wrap ((((s34).length : Nat) : Int) - 1))).bind fun x67 => ((m_ref06_truth n (x67 == 0)).bind fun y68 => ((idx s34 (IntKind.i64.wrap ((((s34).length : Nat) : Int) - 1))).bind fun x70 => (ref06_Value_L1 n v0_l v1_mod v2_own v3_all v4_mem k35 (IntKind.i64.wrap (s33 + 1)) (List.set s34 (IntKind.i64.wrap ((((s34).length : Nat) : Int) - 1)).toNat y68))))) else ((idx s34 (IntKind.i64.wrap ((((s34).length : Nat) : Int) - 2))).bind fun x72 => ((idx s34 (IntKind.i64.wrap ((((s34).length : Nat) : Int) - 1))).bind fun x73 => ((m_ref06_two n x44.op x72 x73 v1_mod).bind fun y74 => ((idx s34 (IntKind.i64.wrap ((((s34).length : Nat) : Int) - 2))).bind fun x76 => (bif (decide (0 ≤ (IntKind.i64.wrap ((((s34).length : Nat) : Int) - 1))) && decide ((IntKind.i64.wrap ((((s34).length : Nat) : Int) - 1)) ≤ ((((List.set s34 (IntKind.i64.wrap ((((s34).length : Nat) : Int) - 2)).toNat y74)).length : Nat) : Int))) then (ref06_Value_L1 n v0_l v1_mod v2_own v3_all v4_mem k35 (IntKind.i64.wrap (s33 + 1)) (List.take ((IntKind.i64.wrap ((((s34).length : Nat) : Int) - 1)).toNat) (List.set s34 (IntKind.i64.wrap ((((s34).length : Nat) : Int) - 2)).toNat y74))) else none))))))))))) else (some (.out s34)))
def m_ref06_Value : Nat → (List OpS) → Int → (List Int) → (List (List Int)) → (List Int) → Option (Int × Bool)
  | 0, _, _, _, _, _ => none
  | n+1, v0_l, v1_mod, v2_own, v3_all, v4_mem => (bif decide (v1_mod < 2) then (some (0, false)) else (bif decide (16 < v1_mod) then (some (0, false)) else ((m_ref06_All n v2_own v1_mod).bind fun y3 => (bif y3 then ((m_ref06_All n v4_mem v1_mod).bind fun y6 => (bif y6 then ((ref06_Value_L0 n v1_mod v3_all n 0 ([] : List Int)).bind fun o18 => match o18 with | .out x29 => ((m_ref06_Right n v0_l x29 (((v2_own).length : Nat) : Int) (((v4_mem).length : Nat) : Int)).bind fun y30 => (bif y30 then ((ref06_Value_L1 n v0_l v1_mod v2_own v3_all v4_mem n 0 ([] : List Int)).bind fun o42 => match o42 with | .out x81 => ((idx x81 0).bind fun x82 => (some (x82, true))) | .ret v => some v) else (some (0, false)))) | .ret v => some v) else (some (0, false)))) else (some (0, false))))))

inductive R_code_of where
  | c0 (x : (Int × Bool))
  | c1 (x : (Int × Bool))
  | c2 (x : (Int × Bool))
  | c3 (x : (Int × Bool))
  | c4 (x : (Int × Bool))
  | c5 (x : (Int × Bool))
  | c6 (x : (Int × Bool))
  | c7 (x : (Int × Bool))
  | c8 (x : (Int × Bool))
  | c9 (x : (Int × Bool))
  | c10 (x : (Int × Bool))
def m_code_of : Nat → Int → Option R_code_of
  | 0, _ => none
  | n+1, v0_op => (bif decide (v0_op < 5) then (some (R_code_of.c0 (0, false))) else (bif decide (15 ≤ v0_op) then (some (R_code_of.c0 (0, false))) else (bif decide (v0_op = ((14 : Nat) : Int)) then (some (R_code_of.c1 (2, true))) else (bif decide (v0_op = ((13 : Nat) : Int)) then (some (R_code_of.c2 (2, true))) else (bif decide (v0_op = ((12 : Nat) : Int)) then (some (R_code_of.c3 (2, true))) else (bif decide (v0_op = ((11 : Nat) : Int)) then (some (R_code_of.c4 (2, true))) else (bif decide (v0_op = ((10 : Nat) : Int)) then (some (R_code_of.c5 (2, true))) else (bif decide (v0_op = ((9 : Nat) : Int)) then (some (R_code_of.c6 (2, true))) else (bif decide (v0_op = ((8 : Nat) : Int)) then (some (R_code_of.c7 (2, true))) else (bif decide (v0_op = ((7 : Nat) : Int)) then (some (R_code_of.c8 (2, true))) else (bif decide (v0_op = ((6 : Nat) : Int)) then (some (R_code_of.c9 (2, true))) else (bif decide (v0_op = ((5 : Nat) : Int)) then (some (R_code_of.c10 (1, true))) else (bif decide (v0_op = ((4 : Nat) : Int)) then (some (R_code_of.c0 (0, true))) else (bif decide (v0_op = ((3 : Nat) : Int)) then (some (R_code_of.c0 (0, true))) else (bif decide (v0_op = ((2 : Nat) : Int)) then (some (R_code_of.c0 (0, true))) else (bif decide (v0_op = ((1 : Nat) : Int)) then (some (R_code_of.c0 (0, true))) else (bif decide (v0_op = ((0 : Nat) : Int)) then (some (R_code_of.c0 (0, true))) else none)))))))))))))))))

def code_lies_L0 (n : Nat)  (v0_l : (List OpS)) : Nat → Int → Int → Int → Option (LR (Int × Int) (Int × Int))
  | 0, _, _, _ => none
  | k4+1, s1, s2, s3 => (bif decide (s3 < (((v0_l).length : Nat) : Int)) then ((idx v0_l s3).bind fun x13 => ((m_code_of n x13.op).bind fun y14 => (match y14 with | .c0 y16 => (bif decide (1 ≤ x13.op) then (bif (y16).2 then (bif decide (s1 < ((y16).1)) then (some (.ret ((-1), (-1)))) else (code_lies_L0 n v0_l k4 (IntKind.i64.wrap (s1 + (IntKind.i64.wrap (1 - ((y16).1))))) (if s2 < (IntKind.i64.wrap (s1 + (IntKind.i64.wrap (1 - ((y16).1))))) then (IntKind.i64.wrap (s1 + (IntKind.i64.wrap (1 - ((y16).1))))) else s2) (IntKind.i64.wrap (s3 + 1)))) else (bif decide (x13.op ≤ 4) then (bif decide (s1 < ((y16).1)) then (some (.ret ((-1), (-1)))) else (code_lies_L0 n v0_l k4 (IntKind.i64.wrap (s1 + (IntKind.i64.wrap (1 - ((y16).1))))) (if s2 < (IntKind.i64.wrap (s1 + (IntKind.i64.wrap (1 - ((y16).1))))) then (IntKind.i64.wrap (s1 + (IntKind.i64.wrap (1 - ((y16).1))))) else s2) (IntKind.i64.wrap (s3 + 1)))) else (some (.ret ((-1), (-1)))))) else (bif (y16).2 then (bif decide (s1 < ((y16).1)) then (some (.ret ((-1), (-1)))) else (code_lies_L0 n v0_l k4 (IntKind.i64.wrap (s1 + (IntKind.i64.wrap (1 - ((y16).1))))) (if s2 < (IntKind.i64.wrap (s1 + (IntKind.i64.wrap (1 - ((y16).1))))) then (IntKind.i64.wrap (s1 + (IntKind.i64.wrap (1 - ((y16).1))))) else s2) (IntKind.i64.wrap (s3 + 1)))) else (some (.ret ((-1), (-1)))))) | .c1 y17 => (bif decide (1 ≤ x13.op) then (bif (y17).2 then (bif decide (s1 < ((y17).1)) then (some (.ret ((-1), (-1)))) else (code_lies_L0 n v0_l k4 (IntKind.i64.wrap (s1 + (IntKind.i64.wrap (1 - ((y17).1))))) (if s2 < (IntKind.i64.wrap (s1 + (IntKind.i64.wrap (1 - ((y17).1))))) then (IntKind.i64.wrap (s1 + (IntKind.i64.wrap (1 - ((y17).1))))) else s2) (IntKind.i64.wrap (s3 + 1)))) else (bif decide (x13.op ≤ 4) then (bif decide (s1 < ((y17).1)) then (some (.ret ((-1), (-1)))) else (code_lies_L0 n v0_l k4 (IntKind.i64.wrap (s1 + (IntKind.i64.wrap (1 - ((y17).1))))) (if s2 < (IntKind.i64.wrap (s1 + (IntKind.i64.wrap (1 - ((y17).1))))) then (IntKind.i64.wrap (s1 + (IntKind.i64.wrap (1 - ((y17).1))))) else s2) (IntKind.i64.wrap (s3 + 1)))) else (some (.ret ((-1), (-1)))))) else (bif (y17).2 then (bif decide (s1 < ((y17).1)) then (some (.ret ((-1), (-1)))) else (code_lies_L0 n v0_l k4 (IntKind.i64.wrap (s1 + (IntKind.i64.wrap (1 - ((y17).1))))) (if s2 < (IntKind.i64.wrap (s1 + (IntKind.i64.wrap (1 - ((y17).1))))) then (IntKind.i64.wrap (s1 + (IntKind.i64.wrap (1 - ((y17).1))))) else s2) (IntKind.i64.wrap (s3 + 1)))) else (some (.ret ((-1), (-1)))))) | .c2 y18 => (bif decide (1 ≤ x13.op) then (bif (y18).2 then (bif decide (s1 < ((y18).1)) then (some (.ret ((-1), (-1)))) else (code_lies_L0 n v0_l k4 (IntKind.i64.wrap (s1 + (IntKind.i64.wrap (1 - ((y18).1))))) (if s2 < (IntKind.i64.wrap (s1 + (IntKind.i64.wrap (1 - ((y18).1))))) then (IntKind.i64.wrap (s1 + (IntKind.i64.wrap (1 - ((y18).1))))) else s2) (IntKind.i64.wrap (s3 + 1)))) else (bif decide (x13.op ≤ 4) then (bif decide (s1 < ((y18).1)) then (some (.ret ((-1), (-1)))) else (code_lies_L0 n v0_l k4 (IntKind.i64.wrap (s1 + (IntKind.i64.wrap (1 - ((y18).1))))) (if s2 < (IntKind.i64.wrap (s1 + (IntKind.i64.wrap (1 - ((y18).1))))) then (IntKind.i64.wrap (s1 + (IntKind.i64.wrap (1 - ((y18).1))))) else s2) (IntKind.i64.wrap (s3 + 1)))) else (some (.ret ((-1), (-1)))))) else (bif (y18).2 then (bif decide (s1 < ((y18).1)) then (some (.ret ((-1), (-1)))) else (code_lies_L0 n v0_l k4 (IntKind.i64.wrap (s1 + (IntKind.i64.wrap (1 - ((y18).1))))) (if s2 < (IntKind.i64.wrap (s1 + (IntKind.i64.wrap (1 - ((y18).1))))) then (IntKind.i64.wrap (s1 + (IntKind.i64.wrap (1 - ((y18).1))))) else s2) (IntKind.i64.wrap (s3 + 1)))) else (some (.ret ((-1), (-1)))))) | .c3 y19 => (bif decide (1 ≤ x13.op) then (bif (y19).2 then (bif decide (s1 < ((y19).1)) then (some (.ret ((-1), (-1)))) else (code_lies_L0 n v0_l k4 (IntKind.i64.wrap (s1 + (IntKind.i64.wrap (1 - ((y19).1))))) (if s2 < (IntKind.i64.wrap (s1 + (IntKind.i64.wrap (1 - ((y19).1))))) then (IntKind.i64.wrap (s1 + (IntKind.i64.wrap (1 - ((y19).1))))) else s2) (IntKind.i64.wrap (s3 + 1)))) else (bif decide (x13.op ≤ 4) then (bif decide (s1 < ((y19).1)) then (some (.ret ((-1), (-1)))) else (code_lies_L0 n v0_l k4 (IntKind.i64.wrap (s1 + (IntKind.i64.wrap (1 - ((y19).1))))) (if s2 < (IntKind.i64.wrap (s1 + (IntKind.i64.wrap (1 - ((y19).1))))) then (IntKind.i64.wrap (s1 + (IntKind.i64.wrap (1 - ((y19).1))))) else s2) (IntKind.i64.wrap (s3 + 1)))) else (some (.ret ((-1), (-1)))))) else (bif (y19).2 then (bif decide (s1 < ((y19).1)) then (some (.ret ((-1), (-1)))) else (code_lies_L0 n v0_l k4 (IntKind.i64.wrap (s1 + (IntKind.i64.wrap (1 - ((y19).1))))) (if s2 < (IntKind.i64.wrap (s1 + (IntKind.i64.wrap (1 - ((y19).1))))) then (IntKind.i64.wrap (s1 + (IntKind.i64.wrap (1 - ((y19).1))))) else s2) (IntKind.i64.wrap (s3 + 1)))) else (some (.ret ((-1), (-1)))))) | .c4 y20 => (bif decide (1 ≤ x13.op) then (bif (y20).2 then (bif decide (s1 < ((y20).1)) then (some (.ret ((-1), (-1)))) else (code_lies_L0 n v0_l k4 (IntKind.i64.wrap (s1 + (IntKind.i64.wrap (1 - ((y20).1))))) (if s2 < (IntKind.i64.wrap (s1 + (IntKind.i64.wrap (1 - ((y20).1))))) then (IntKind.i64.wrap (s1 + (IntKind.i64.wrap (1 - ((y20).1))))) else s2) (IntKind.i64.wrap (s3 + 1)))) else (bif decide (x13.op ≤ 4) then (bif decide (s1 < ((y20).1)) then (some (.ret ((-1), (-1)))) else (code_lies_L0 n v0_l k4 (IntKind.i64.wrap (s1 + (IntKind.i64.wrap (1 - ((y20).1))))) (if s2 < (IntKind.i64.wrap (s1 + (IntKind.i64.wrap (1 - ((y20).1))))) then (IntKind.i64.wrap (s1 + (IntKind.i64.wrap (1 - ((y20).1))))) else s2) (IntKind.i64.wrap (s3 + 1)))) else (some (.ret ((-1), (-1)))))) else (bif (y20).2 then (bif decide (s1 < ((y20).1)) then (some (.ret ((-1), (-1)))) else (code_lies_L0 n v0_l k4 (IntKind.i64.wrap (s1 + (IntKind.i64.wrap (1 - ((y20).1))))) (if s2 < (IntKind.i64.wrap (s1 + (IntKind.i64.wrap (1 - ((y20).1))))) then (IntKind.i64.wrap (s1 + (IntKind.i64.wrap (1 - ((y20).1))))) else s2) (IntKind.i64.wrap (s3 + 1)))) else (some (.ret ((-1), (-1)))))) | .c5 y21 => (bif decide (1 ≤ x13.op) then (bif (y21).2 then (bif decide (s1 < ((y21).1)) then (some (.ret ((-1), (-1)))) else (code_lies_L0 n v0_l k4 (IntKind.i64.wrap (s1 + (IntKind.i64.wrap (1 - ((y21).1))))) (if s2 < (IntKind.i64.wrap (s1 + (IntKind.i64.wrap (1 - ((y21).1))))) then (IntKind.i64.wrap (s1 + (IntKind.i64.wrap (1 - ((y21).1))))) else s2) (IntKind.i64.wrap (s3 + 1)))) else (bif decide (x13.op ≤ 4) then (bif decide (s1 < ((y21).1)) then (some (.ret ((-1), (-1)))) else (code_lies_L0 n v0_l k4 (IntKind.i64.wrap (s1 + (IntKind.i64.wrap (1 - ((y21).1))))) (if s2 < (IntKind.i64.wrap (s1 + (IntKind.i64.wrap (1 - ((y21).1))))) then (IntKind.i64.wrap (s1 + (IntKind.i64.wrap (1 - ((y21).1))))) else s2) (IntKind.i64.wrap (s3 + 1)))) else (some (.ret ((-1), (-1)))))) else (bif (y21).2 then (bif decide (s1 < ((y21).1)) then (some (.ret ((-1), (-1)))) else (code_lies_L0 n v0_l k4 (IntKind.i64.wrap (s1 + (IntKind.i64.wrap (1 - ((y21).1))))) (if s2 < (IntKind.i64.wrap (s1 + (IntKind.i64.wrap (1 - ((y21).1))))) then (IntKind.i64.wrap (s1 + (IntKind.i64.wrap (1 - ((y21).1))))) else s2) (IntKind.i64.wrap (s3 + 1)))) else (some (.ret ((-1), (-1)))))) | .c6 y22 => (bif decide (1 ≤ x13.op) then (bif (y22).2 then (bif decide (s1 < ((y22).1)) then (some (.ret ((-1), (-1)))) else (code_lies_L0 n v0_l k4 (IntKind.i64.wrap (s1 + (IntKind.i64.wrap (1 - ((y22).1))))) (if s2 < (IntKind.i64.wrap (s1 + (IntKind.i64.wrap (1 - ((y22).1))))) then (IntKind.i64.wrap (s1 + (IntKind.i64.wrap (1 - ((y22).1))))) else s2) (IntKind.i64.wrap (s3 + 1)))) else (bif decide (x13.op ≤ 4) then (bif decide (s1 < ((y22).1)) then (some (.ret ((-1), (-1)))) else (code_lies_L0 n v0_l k4 (IntKind.i64.wrap (s1 + (IntKind.i64.wrap (1 - ((y22).1))))) (if s2 < (IntKind.i64.wrap (s1 + (IntKind.i64.wrap (1 - ((y22).1))))) then (IntKind.i64.wrap (s1 + (IntKind.i64.wrap (1 - ((y22).1))))) else s2) (IntKind.i64.wrap (s3 + 1)))) else (some (.ret ((-1), (-1)))))) else (bif (y22).2 then (bif decide (s1 < ((y22).1)) then (some (.ret ((-1), (-1)))) else (code_lies_L0 n v0_l k4 (IntKind.i64.wrap (s1 + (IntKind.i64.wrap (1 - ((y22).1))))) (if s2 < (IntKind.i64.wrap (s1 + (IntKind.i64.wrap (1 - ((y22).1))))) then (IntKind.i64.wrap (s1 + (IntKind.i64.wrap (1 - ((y22).1))))) else s2) (IntKind.i64.wrap (s3 + 1)))) else (some (.ret ((-1), (-1)))))) | .c7 y23 => (bif decide (1 ≤ x13.op) then (bif (y23).2 then (bif decide (s1 < ((y23).1)) then (some (.ret ((-1), (-1)))) else (code_lies_L0 n v0_l k4 (IntKind.i64.wrap (s1 + (IntKind.i64.wrap (1 - ((y23).1))))) (if s2 < (IntKind.i64.wrap (s1 + (IntKind.i64.wrap (1 - ((y23).1))))) then (IntKind.i64.wrap (s1 + (IntKind.i64.wrap (1 - ((y23).1))))) else s2) (IntKind.i64.wrap (s3 + 1)))) else (bif decide (x13.op ≤ 4) then (bif decide (s1 < ((y23).1)) then (some (.ret ((-1), (-1)))) else (code_lies_L0 n v0_l k4 (IntKind.i64.wrap (s1 + (IntKind.i64.wrap (1 - ((y23).1))))) (if s2 < (IntKind.i64.wrap (s1 + (IntKind.i64.wrap (1 - ((y23).1))))) then (IntKind.i64.wrap (s1 + (IntKind.i64.wrap (1 - ((y23).1))))) else s2) (IntKind.i64.wrap (s3 + 1)))) else (some (.ret ((-1), (-1)))))) else (bif (y23).2 then (bif decide (s1 < ((y23).1)) then (some (.ret ((-1), (-1)))) else (code_lies_L0 n v0_l k4 (IntKind.i64.wrap (s1 + (IntKind.i64.wrap (1 - ((y23).1))))) (if s2 < (IntKind.i64.wrap (s1 + (IntKind.i64.wrap (1 - ((y23).1))))) then (IntKind.i64.wrap (s1 + (IntKind.i64.wrap (1 - ((y23).1))))) else s2) (IntKind.i64.wrap (s3 + 1)))) else (some (.ret ((-1), (-1)))))) | .c8 y24 => (bif decide (1 ≤ x13.op) then (bif (y24).2 then (bif decide (s1 < ((y24).1)) then (some (.ret ((-1), (-1)))) else (code_lies_L0 n v0_l k4 (IntKind.i64.wrap (s1 + (IntKind.i64.wrap (1 - ((y24).1))))) (if s2 < (IntKind.i64.wrap (s1 + (IntKind.i64.wrap (1 - ((y24).1))))) then (IntKind.i64.wrap (s1 + (IntKind.i64.wrap (1 - ((y24).1))))) else s2) (IntKind.i64.wrap (s3 + 1)))) else (bif decide (x13.op ≤ 4) then (bif decide (s1 < ((y24).1)) then (some (.ret ((-1), (-1)))) else (code_lies_L0 n v0_l k4 (IntKind.i64.wrap (s1 + (IntKind.i64.wrap (1 - ((y24).1))))) (if s2 < (IntKind.i64.wrap (s1 + (IntKind.i64.wrap (1 - ((y24).1))))) then (IntKind.i64.wrap (s1 + (IntKind.i64.wrap (1 - ((y24).1))))) else s2) (IntKind.i64.wrap (s3 + 1)))) else (some (.ret ((-1), (-1)))))) else (bif (y24).2 then (bif decide (s1 < ((y24).1)) then (some (.ret ((-1), (-1)))) else (code_lies_L0 n v0_l k4 (IntKind.i64.wrap (s1 + (IntKind.i64.wrap (1 - ((y24).1))))) (if s2 < (IntKind.i64.wrap (s1 + (IntKind.i64.wrap (1 - ((y24).1))))) then (IntKind.i64.wrap (s1 + (IntKind.i64.wrap (1 - ((y24).1))))) else s2) (IntKind.i64.wrap (s3 + 1)))) else (some (.ret ((-1), (-1)))))) | .c9 y25 => (bif decide (1 ≤ x13.op) then (bif (y25).2 then (bif decide (s1 < ((y25).1)) then (some (.ret ((-1), (-1)))) else (code_lies_L0 n v0_l k4 (IntKind.i64.wrap (s1 + (IntKind.i64.wrap (1 - ((y25).1))))) (if s2 < (IntKind.i64.wrap (s1 + (IntKind.i64.wrap (1 - ((y25).1))))) then (IntKind.i64.wrap (s1 + (IntKind.i64.wrap (1 - ((y25).1))))) else s2) (IntKind.i64.wrap (s3 + 1)))) else (bif decide (x13.op ≤ 4) then (bif decide (s1 < ((y25).1)) then (some (.ret ((-1), (-1)))) else (code_lies_L0 n v0_l k4 (IntKind.i64.wrap (s1 + (IntKind.i64.wrap (1 - ((y25).1))))) (if s2 < (IntKind.i64.wrap (s1 + (IntKind.i64.wrap (1 - ((y25).1))))) then (IntKind.i64.wrap (s1 + (IntKind.i64.wrap (1 - ((y25).1))))) else s2) (IntKind.i64.wrap (s3 + 1)))) else (some (.ret ((-1), (-1)))))) else (bif (y25).2 then (bif decide (s1 < ((y25).1)) then (some (.ret ((-1), (-1)))) else (code_lies_L0 n v0_l k4 (IntKind.i64.wrap (s1 + (IntKind.i64.wrap (1 - ((y25).1))))) (if s2 < (IntKind.i64.wrap (s1 + (IntKind.i64.wrap (1 - ((y25).1))))) then (IntKind.i64.wrap (s1 + (IntKind.i64.wrap (1 - ((y25).1))))) else s2) (IntKind.i64.wrap (s3 + 1)))) else (some (.ret ((-1), (-1)))))) | .c10 y26 => (bif decide (1 ≤ x13.op) then (bif (y26).2 then (bif decide (s1 < ((y26).1)) then (some (.ret ((-1), (-1)))) else (code_lies_L0 n v0_l k4 (IntKind.i64.wrap (s1 + (IntKind.i64.wrap (1 - ((y26).1))))) (if s2 < (IntKind.i64.wrap (s1 + (IntKind.i64.wrap (1 - ((y26).1))))) then (IntKind.i64.wrap (s1 + (IntKind.i64.wrap (1 - ((y26).1))))) else s2) (IntKind.i64.wrap (s3 + 1)))) else (bif decide (x13.op ≤ 4) then (bif decide (s1 < ((y26).1)) then (some (.ret ((-1), (-1)))) else (code_lies_L0 n v0_l k4 (IntKind.i64.wrap (s1 + (IntKind.i64.wrap (1 - ((y26).1))))) (if s2 < (IntKind.i64.wrap (s1 + (IntKind.i64.wrap (1 - ((y26).1))))) then (IntKind.i64.wrap (s1 + (IntKind.i64.wrap (1 - ((y26).1))))) else s2) (IntKind.i64.wrap (s3 + 1)))) else (some (.ret ((-1), (-1)))))) else (bif (y26).2 then (bif decide (s1 < ((y26).1)) then (some (.ret ((-1), (-1)))) else (code_lies_L0 n v0_l k4 (IntKind.i64.wrap (s1 + (IntKind.i64.wrap (1 - ((y26).1))))) (if s2 < (IntKind.i64.wrap (s1 + (IntKind.i64.wrap (1 - ((y26).1))))) then (IntKind.i64.wrap (s1 + (IntKind.i64.wrap (1 - ((y26).1))))) else s2) (IntKind.i64.wrap (s3 + 1)))) else (some (.ret ((-1), (-1))))))))) else (some (.out (s1, s2))))
def m_code_lies : Nat → (List OpS) → Option (Int × Int)
  | 0, _ => none
  | n+1, v0_l => ((code_lies_L0 n v0_l n 0 0 0).bind fun o11 => match o11 with | .out (x105, x106) => (some (x105, x106)) | .ret v => some v)

def m_code_Depth : Nat → (List OpS) → Option Int
  | 0, _ => none
  | n+1, v0_l => ((m_code_lies n v0_l).bind fun y1 => (some ((y1).2)))

def code_Right_L0 (n : Nat)  (v0_l : (List OpS)) (v1_regs : (List Int)) (v2_own : Int) (v3_locs : Int) : Nat → Int → Option (LR Unit Bool)
  | 0, _ => none
  | k2+1, s1 => (bif decide (s1 < (((v0_l).length : Nat) : Int)) then ((idx v0_l s1).bind fun x11 => (bif (x11.op == 1) then (bif decide (x11.n < 0) then (some (.ret false)) else (bif decide (10000 ≤ x11.n) then (some (.ret false)) else (code_Right_L0 n v0_l v1_regs v2_own v3_locs k2 (IntKind.i64.wrap (s1 + 1))))) else (bif (x11.op == 2) then (bif decide (x11.n < 0) then (some (.ret false)) else (bif decide (v2_own ≤ x11.n) then (some (.ret false)) else (code_Right_L0 n v0_l v1_regs v2_own v3_locs k2 (IntKind.i64.wrap (s1 + 1))))) else (bif (x11.op == 3) then (bif decide (x11.n < 0) then (some (.ret false)) else (bif decide (v3_locs ≤ x11.n) then (some (.ret false)) else (code_Right_L0 n v0_l v1_regs v2_own v3_locs k2 (IntKind.i64.wrap (s1 + 1))))) else (bif (x11.op == 4) then (bif decide (0 ≤ x11.t) then (bif decide (x11.t < (((v1_regs).length : Nat) : Int)) then ((idx v1_regs x11.t).bind fun x24 => (bif decide (x11.n < 0) then (some (.ret false)) else (bif decide (x24 ≤ x11.n) then (some (.ret false)) else (code_Right_L0 n v0_l v1_regs v2_own v3_locs k2 (IntKind.i64.wrap (s1 + 1)))))) else (bif decide (x11.n < 0) then (some (.ret false)) else (bif decide (0 ≤ x11.n) then (some (.ret false)) else (code_Right_L0 n v0_l v1_regs v2_own v3_locs k2 (IntKind.i64.wrap (s1 + 1)))))) else (bif decide (x11.n < 0) then (some (.ret false)) else (bif decide (0 ≤ x11.n) then (some (.ret false)) else (code_Right_L0 n v0_l v1_regs v2_own v3_locs k2 (IntKind.i64.wrap (s1 + 1)))))) else (code_Right_L0 n v0_l v1_regs v2_own v3_locs k2 (IntKind.i64.wrap (s1 + 1)))))))) else (some (.out ())))
def m_code_Right : Nat → (List OpS) → (List Int) → Int → Int → Option Bool
  | 0, _, _, _, _ => none
  | n+1, v0_l, v1_regs, v2_own, v3_locs => ((code_Right_L0 n v0_l v1_regs v2_own v3_locs n 0).bind fun o9 => match o9 with | .out _ => ((m_code_lies n v0_l).bind fun y32 => (some (((y32).1) == 1))) | .ret v => some v)

def code_below_L1 (n : Nat)  (v0_mod : Int) (x11 : (List Int)) : Nat → Int → Option (LR Unit Bool)
  | 0, _ => none
  | k13+1, s12 => (bif decide (s12 < (((x11).length : Nat) : Int)) then ((idx x11 s12).bind fun x22 => (bif decide (x22 < 0) then (some (.ret false)) else (bif decide (v0_mod ≤ x22) then (some (.ret false)) else (code_below_L1 n v0_mod x11 k13 (IntKind.i64.wrap (s12 + 1)))))) else (some (.out ())))
def code_below_L0 (n : Nat)  (v0_mod : Int) (v1_lists : (List (List Int))) : Nat → Int → Option (LR Unit Bool)
  | 0, _ => none
  | k2+1, s1 => (bif decide (s1 < (((v1_lists).length : Nat) : Int)) then ((idx v1_lists s1).bind fun x11 => ((code_below_L1 n v0_mod x11 n 0).bind fun o20 => match o20 with | .out _ => (code_below_L0 n v0_mod v1_lists k2 (IntKind.i64.wrap (s1 + 1))) | .ret v => some (.ret v))) else (some (.out ())))
def m_code_below : Nat → Int → (List (List Int)) → Option Bool
  | 0, _, _ => none
  | n+1, v0_mod, v1_lists => ((code_below_L0 n v0_mod v1_lists n 0).bind fun o9 => match o9 with | .out _ => (some true) | .ret v => some v)

def m_code_truth : Nat → Bool → Option Int
  | 0, _ => none
  | n+1, v0_is => (bif v0_is then (some 1) else (some 0))

def m_code_of_1 : Nat → Int → Int → Int → Option Int
  | 0, _, _, _ => none
  | n+1, v0_, v1_b, v2_ => ((m_code_truth n (v1_b == 0)).bind fun y1 => (some y1))

def m_code_of_10 : Nat → Int → Int → Int → Option Int
  | 0, _, _, _ => none
  | n+1, v0_a, v1_b, v2_ => ((m_code_truth n ((IntKind.i64.wrap (v0_a + v1_b)) != 0)).bind fun y1 => (some y1))

def m_code_of_2 : Nat → Int → Int → Int → Option Int
  | 0, _, _, _ => none
  | n+1, v0_a, v1_b, v2_mod => (bif decide (v2_mod = 0) then none else (some (Int.tmod (IntKind.i64.wrap (v0_a + v1_b)) v2_mod)))

def m_code_of_3 : Nat → Int → Int → Int → Option Int
  | 0, _, _, _ => none
  | n+1, v0_a, v1_b, v2_mod => (bif decide (v2_mod = 0) then none else (some (Int.tmod (IntKind.i64.wrap ((IntKind.i64.wrap (v0_a + v2_mod)) - v1_b)) v2_mod)))

def m_code_of_4 : Nat → Int → Int → Int → Option Int
  | 0, _, _, _ => none
  | n+1, v0_a, v1_b, v2_mod => (bif decide (v2_mod = 0) then none else (some (Int.tmod (IntKind.i64.wrap (v0_a * v1_b)) v2_mod)))

def m_code_of_5 : Nat → Int → Int → Int → Option Int
  | 0, _, _, _ => none
  | n+1, v0_a, v1_b, v2_ => ((m_code_truth n (v0_a == v1_b)).bind fun y1 => (some y1))

def m_code_of_6 : Nat → Int → Int → Int → Option Int
  | 0, _, _, _ => none
  | n+1, v0_a, v1_b, v2_ => ((m_code_truth n (v0_a != v1_b)).bind fun y1 => (some y1))

def m_code_of_7 : Nat → Int → Int → Int → Option Int
  | 0, _, _, _ => none
  | n+1, v0_a, v1_b, v2_ => ((m_code_truth n (decide (v0_a < v1_b))).bind fun y1 => (some y1))

def m_code_of_8 : Nat → Int → Int → Int → Option Int
  | 0, _, _, _ => none
  | n+1, v0_a, v1_b, v2_ => ((m_code_truth n (decide (v0_a ≤ v1_b))).bind fun y1 => (some y1))

def m_code_of_9 : Nat → Int → Int → Int → Option Int
  | 0, _, _, _ => none
  | n+1, v0_a, v1_b, v2_ => ((m_code_truth n ((IntKind.i64.wrap (v0_a * v1_b)) != 0)).bind fun y1 => (some y1))

def code_Value_L0 (n : Nat)  (v3_all : (List (List Int))) : Nat → Int → (List Int) → Option (LR (List Int) (Int × Bool))
  | 0, _, _ => none
  | k11+1, s9, s10 => (bif decide (s9 < (((v3_all).length : Nat) : Int)) then ((idx v3_all s9).bind fun x20 => (bif decide (((s10).length + 1) * 9 ≤ 140737488355328) then (code_Value_L0 n v3_all k11 (IntKind.i64.wrap (s9 + 1)) (s10 ++ ([(((x20).length : Nat) : Int)] : List Int))) else none)) else (some (.out s10)))
def code_Value_L1 (n : Nat)  (v0_l : (List OpS)) (v1_mod : Int) (v2_own : (List Int)) (v3_all : (List (List Int))) (v4_mem : (List Int)) : Nat → Int → (List Int) → Option (LR (List Int) (Int × Bool))
  | 0, _, _ => none
  | k31+1, s29, s30 => (bif decide (s29 < (((v0_l).length : Nat) : Int)) then ((idx v0_l s29).bind fun x40 => (bif (x40.op == 1) then (bif decide (v1_mod = 0) then none else (bif decide (((s30).length + 1) * 9 ≤ 140737488355328) then (code_Value_L1 n v0_l v1_mod v2_own v3_all v4_mem k31 (IntKind.i64.wrap (s29 + 1)) (s30 ++ ([(Int.tmod x40.n v1_mod)] : List Int))) else none)) else (bif (x40.op == 2) then ((idx v2_own x40.n).bind fun x47 => (bif decide (((s30).length + 1) * 9 ≤ 140737488355328) then (code_Value_L1 n v0_l v1_mod v2_own v3_all v4_mem k31 (IntKind.i64.wrap (s29 + 1)) (s30 ++ ([x47] : List Int))) else none)) else (bif (x40.op == 3) then ((idx v4_mem x40.n).bind fun x52 => (bif decide (((s30).length + 1) * 9 ≤ 140737488355328) then (code_Value_L1 n v0_l v1_mod v2_own v3_all v4_mem k31 (IntKind.i64.wrap (s29 + 1)) (s30 ++ ([x52] : List Int))) else none)) else (bif (x40.op == 4) then ((idx v3_all x40.t).bind fun x57 => ((idx x57 x40.n).bind fun x58 => (bif decide (((s30).length + 1) * 9 ≤ 140737488355328) then (code_Value_L1 n v0_l v1_mod v2_own v3_all v4_mem k31 (IntKind.i64.wrap (s29 + 1)) (s30 ++ ([x58] : List Int))) else none))) else ((m_code_of n x40.op).bind fun y62 => (match y62 with | .c0 y64 => none | .c1 y65 => ((idx s30 (IntKind.i64.wrap ((IntKind.i64.wrap ((IntKind.i64.wrap ((((s30).length : Nat) : Int) - 1)) + 1)) - ((y65).1)))).bind fun x77 => ((idx s30 (IntKind.i64.wrap ((((s30).length : Nat) : Int) - 1))).bind fun x78 => ((m_code_of_10 n x77 x78 v1_mod).bind fun y79 => ((idx s30 (IntKind.i64.wrap ((IntKind.i64.wrap ((IntKind.i64.wrap ((((s30).length : Nat) : Int) - 1)) + 1)) - ((y65).1)))).bind fun x81 => (bif (decide (0 ≤ (IntKind.i64.wrap ((IntKind.i64.wrap ((IntKind.i64.wrap ((IntKind.i64.wrap ((((s30).length : Nat) : Int) - 1)) + 1)) - ((y65).1))) + 1))) && decide ((IntKind.i64.wrap ((IntKind.i64.wrap ((IntKind.i64.wrap ((IntKind.i64.wrap ((((s30).length : Nat) : Int) - 1)) + 1)) - ((y65).1))) + 1)) ≤ ((((List.set s30 (IntKind.i64.wrap ((IntKind.i64.wrap ((IntKind.i64.wrap ((((s30).length : Nat) : Int) - 1)) + 1)) - ((y65).1))).toNat y79)).length : Nat) : Int))) then (code_Value_L1 n v0_l v1_mod v2_own v3_all v4_mem k31 (IntKind.i64.wrap (s29 + 1)) (List.take ((IntKind.i64.wrap ((IntKind.i64.wrap ((IntKind.i64.wrap ((IntKind.i64.wrap ((((s30).length : Nat) : Int) - 1)) + 1)) - ((y65).1))) + 1)).toNat) (List.set s30 (IntKind.i64.wrap ((IntKind.i64.wrap ((IntKind.i64.wrap ((((s30).length : Nat) : Int) - 1)) + 1)) - ((y65).1))).toNat y79))) else none))))) | .c2 y66 => ((idx s30 (IntKind.i64.wrap ((IntKind.i64.wrap ((IntKind.i64.wrap ((((s30).length : Nat) : Int) - 1)) + 1)) - ((y66).1)))).bind fun x85 => ((idx s30 (IntKind.i64.wrap ((((s30).length : Nat) : Int) - 1))).bind fun x86 => ((m_code_of_9 n x85 x86 v1_mod).bind fun y87 => ((idx s30 (IntKind.i64.wrap ((IntKind.i64.wrap ((IntKind.i64.wrap ((((s30).length : Nat) : Int) - 1)) + 1)) - ((y66).1)))).bind fun x89 => (bif (decide (0 ≤ (IntKind.i64.wrap ((IntKind.i64.wrap ((IntKind.i64.wrap ((IntKind.i64.wrap ((((s30).length : Nat) : Int) - 1)) + 1)) - ((y66).1))) + 1))) && decide ((IntKind.i64.wrap ((IntKind.i64.wrap ((IntKind.i64.wrap ((IntKind.i64.wrap ((((s30).length : Nat) : Int) - 1)) + 1)) - ((y66).1))) + 1)) ≤ ((((List.set s30 (IntKind.i64.wrap ((IntKind.i64.wrap ((IntKind.i64.wrap ((((s30).length : Nat) : Int) - 1)) + 1)) - ((y66).1))).toNat y87)).length : Nat) : Int))) then (code_Value_L1 n v0_l v1_mod v2_own v3_all v4_mem k31 (IntKind.i64.wrap (s29 + 1)) (List.take ((IntKind.i64.wrap ((IntKind.i64.wrap ((IntKind.i64.wrap ((IntKind.i64.wrap ((((s30).length : Nat) : Int) - 1)) + 1)) - ((y66).1))) + 1)).toNat) (List.set s30 (IntKind.i64.wrap ((IntKind.i64.wrap ((IntKind.i64.wrap ((((s30).length : Nat) : Int) - 1)) + 1)) - ((y66).1))).toNat y87))) else none))))) | .c3 y67 => ((idx s30 (IntKind.i64.wrap ((IntKind.i64.wrap ((IntKind.i64.wrap ((((s30).length : Nat) : Int) - 1)) + 1)) - ((y67).1)))).bind fun x93 => ((idx s30 (IntKind.i64.wrap ((((s30).length : Nat) : Int) - 1))).bind fun x94 => ((m_code_of_8 n x93 x94 v1_mod).bind fun y95 => ((idx s30 (IntKind.i64.wrap ((IntKind.i64.wrap ((IntKind.i64.wrap ((((s30).length : Nat) : Int) - 1)) + 1)) - ((y67).1)))).bind fun x97 => (bif (decide (0 ≤ (IntKind.i64.wrap ((IntKind.i64.wrap ((IntKind.i64.wrap ((IntKind.i64.wrap ((((s30).length : Nat) : Int) - 1)) + 1)) - ((y67).1))) + 1))) && decide ((IntKind.i64.wrap ((IntKind.i64.wrap ((IntKind.i64.wrap ((IntKind.i64.wrap ((((s30).length : Nat) : Int) - 1)) + 1)) - ((y67).1))) + 1)) ≤ ((((List.set s30 (IntKind.i64.wrap ((IntKind.i64.wrap ((IntKind.i64.wrap ((((s30).length : Nat) : Int) - 1)) + 1)) - ((y67).1))).toNat y95)).length : Nat) : Int))) then (code_Value_L1 n v0_l v1_mod v2_own v3_all v4_mem k31 (IntKind.i64.wrap (s29 + 1)) (List.take ((IntKind.i64.wrap ((IntKind.i64.wrap ((IntKind.i64.wrap ((IntKind.i64.wrap ((((s30).length : Nat) : Int) - 1)) + 1)) - ((y67).1))) + 1)).toNat) (List.set s30 (IntKind.i64.wrap ((IntKind.i64.wrap ((IntKind.i64.wrap ((((s30).length : Nat) : Int) - 1)) + 1)) - ((y67).1))).toNat y95))) else none))))) | .c4 y68 => ((idx s30 (IntKind.i64.wrap ((IntKind.i64.wrap ((IntKind.i64.wrap ((((s30).length : Nat) : Int) - 1)) + 1)) - ((y68).1)))).bind fun x101 => ((idx s30 (IntKind.i64.wrap ((((s30).length : Nat) : Int) - 1))).bind fun x102 => ((m_code_of_7 n x101 x102 v1_mod).bind fun y103 => ((idx s30 (IntKind.i64.wrap ((IntKind.i64.wrap ((IntKind.i64.wrap ((((s30).length : Nat) : Int) - 1)) + 1)) - ((y68).1)))).bind fun x105 => (bif (decide (0 ≤ (IntKind.i64.wrap ((IntKind.i64.wrap ((IntKind.i64.wrap ((IntKind.i64.wrap ((((s30).length : Nat) : Int) - 1)) + 1)) - ((y68).1))) + 1))) && decide ((IntKind.i64.wrap ((IntKind.i64.wrap ((IntKind.i64.wrap ((IntKind.i64.wrap ((((s30).length : Nat) : Int) - 1)) + 1)) - ((y68).1))) + 1)) ≤ ((((List.set s30 (IntKind.i64.wrap ((IntKind.i64.wrap ((IntKind.i64.wrap ((((s30).length : Nat) : Int) - 1)) + 1)) - ((y68).1))).toNat y103)).length : Nat) : Int))) then (code_Value_L1 n v0_l v1_mod v2_own v3_all v4_mem k31 (IntKind.i64.wrap (s29 + 1)) (List.take ((IntKind.i64.wrap ((IntKind.i64.wrap ((IntKind.i64.wrap ((IntKind.i64.wrap ((((s30).length : Nat) : Int) - 1)) + 1)) - ((y68).1))) + 1)).toNat) (List.set s30 (IntKind.i64.wrap ((IntKind.i64.wrap ((IntKind.i64.wrap ((((s30).length : Nat) : Int) - 1)) + 1)) - ((y68).1))).toNat y103))) else none))))) | .c5 y69 => ((idx s30 (IntKind.i64.wrap ((IntKind.i64.wrap ((IntKind.i64.wrap ((((s30).length : Nat) : Int) - 1)) + 1)) - ((y69).1)))).bind fun x109 => ((idx s30 (IntKind.i64.wrap ((((s30).length : Nat) : Int) - 1))).bind fun x110 => ((m_code_of_6 n x109 x110 v1_mod).bind fun y111 => ((idx s30 (IntKind.i64.wrap ((IntKind.i64.wrap ((IntKind.i64.wrap ((((s30).length : Nat) : Int) - 1)) + 1)) - ((y69).1)))).bind fun x113 => (bif (decide (0 ≤ (IntKind.i64.wrap ((IntKind.i64.wrap ((IntKind.i64.wrap ((IntKind.i64.wrap ((((s30).length : Nat) : Int) - 1)) + 1)) - ((y69).1))) + 1))) && decide ((IntKind.i64.wrap ((IntKind.i64.wrap ((IntKind.i64.wrap ((IntKind.i64.wrap ((((s30).length : Nat) : Int) - 1)) + 1)) - ((y69).1))) + 1)) ≤ ((((List.set s30 (IntKind.i64.wrap ((IntKind.i64.wrap ((IntKind.i64.wrap ((((s30).length : Nat) : Int) - 1)) + 1)) - ((y69).1))).toNat y111)).length : Nat) : Int))) then (code_Value_L1 n v0_l v1_mod v2_own v3_all v4_mem k31 (IntKind.i64.wrap (s29 + 1)) (List.take ((IntKind.i64.wrap ((IntKind.i64.wrap ((IntKind.i64.wrap ((IntKind.i64.wrap ((((s30).length : Nat) : Int) - 1)) + 1)) - ((y69).1))) + 1)).toNat) (List.set s30 (IntKind.i64.wrap ((IntKind.i64.wrap ((IntKind.i64.wrap ((((s30).length : Nat) : Int) - 1)) + 1)) - ((y69).1))).toNat y111))) else none))))) | .c6 y70 => ((idx s30 (IntKind.i64.wrap ((IntKind.i64.wrap ((IntKind.i64.wrap ((((s30).length : Nat) : Int) - 1)) + 1)) - ((y70).1)))).bind fun x117 => ((idx s30 (IntKind.i64.wrap ((((s30).length : Nat) : Int) - 1))).bind fun x118 => ((m_code_of_5 n x117 x118 v1_mod).bind fun y119 => ((idx s30 (IntKind.i64.wrap ((IntKind.i64.wrap ((IntKind.i64.wrap ((((s30).length : Nat) : Int) - 1)) + 1)) - ((y70).1)))).bind fun x121 => (bif (decide (0 ≤ (IntKind.i64.wrap ((IntKind.i64.wrap ((IntKind.i64.wrap ((IntKind.i64.wrap ((((s30).length : Nat) : Int) - 1)) + 1)) - ((y70).1))) + 1))) && decide ((IntKind.i64.wrap ((IntKind.i64.wrap ((IntKind.i64.wrap ((IntKind.i64.wrap ((((s30).length : Nat) : Int) - 1)) + 1)) - ((y70).1))) + 1)) ≤ ((((List.set s30 (IntKind.i64.wrap ((IntKind.i64.wrap ((IntKind.i64.wrap ((((s30).length : Nat) : Int) - 1)) + 1)) - ((y70).1))).toNat y119)).length : Nat) : Int))) then (code_Value_L1 n v0_l v1_mod v2_own v3_all v4_mem k31 (IntKind.i64.wrap (s29 + 1)) (List.take ((IntKind.i64.wrap ((IntKind.i64.wrap ((IntKind.i64.wrap ((IntKind.i64.wrap ((((s30).length : Nat) : Int) - 1)) + 1)) - ((y70).1))) + 1)).toNat) (List.set s30 (IntKind.i64.wrap ((IntKind.i64.wrap ((IntKind.i64.wrap ((((s30).length : Nat) : Int) - 1)) + 1)) - ((y70).1))).toNat y119))) else none))))) | .c7 y71 => ((idx s30 (IntKind.i64.wrap ((IntKind.i64.wrap ((IntKind.i64.wrap ((((s30).length : Nat) : Int) - 1)) + 1)) - ((y71).1)))).bind fun x125 => ((idx s30 (IntKind.i64.wrap ((((s30).length : Nat) : Int) - 1))).bind fun x126 => ((m_code_of_4 n x125 x126 v1_mod).bind fun y127 => ((idx s30 (IntKind.i64.wrap ((IntKind.i64.wrap ((IntKind.i64.wrap ((((s30).length : Nat) : Int) - 1)) + 1)) - ((y71).1)))).bind fun x129 => (bif (decide (0 ≤ (IntKind.i64.wrap ((IntKind.i64.wrap ((IntKind.i64.wrap ((IntKind.i64.wrap ((((s30).length : Nat) : Int) - 1)) + 1)) - ((y71).1))) + 1))) && decide ((IntKind.i64.wrap ((IntKind.i64.wrap ((IntKind.i64.wrap ((IntKind.i64.wrap ((((s30).length : Nat) : Int) - 1)) + 1)) - ((y71).1))) + 1)) ≤ ((((List.set s30 (IntKind.i64.wrap ((IntKind.i64.wrap ((IntKind.i64.wrap ((((s30).length : Nat) : Int) - 1)) + 1)) - ((y71).1))).toNat y127)).length : Nat) : Int))) then (code_Value_L1 n v0_l v1_mod v2_own v3_all v4_mem k31 (IntKind.i64.wrap (s29 + 1)) (List.take ((IntKind.i64.wrap ((IntKind.i64.wrap ((IntKind.i64.wrap ((IntKind.i64.wrap ((((s30).length : Nat) : Int) - 1)) + 1)) - ((y71).1))) + 1)).toNat) (List.set s30 (IntKind.i64.wrap ((IntKind.i64.wrap ((IntKind.i64.wrap ((((s30).length : Nat) : Int) - 1)) + 1)) - ((y71).1))).toNat y127))) else none))))) | .c8 y72 => ((idx s30 (IntKind.i64.wrap ((IntKind.i64.wrap ((IntKind.i64.wrap ((((s30).length : Nat) : Int) - 1)) + 1)) - ((y72).1)))).bind fun x133 => ((idx s30 (IntKind.i64.wrap ((((s30).length : Nat) : Int) - 1))).bind fun x134 => ((m_code_of_3 n x133 x134 v1_mod).bind fun y135 => ((idx s30 (IntKind.i64.wrap ((IntKind.i64.wrap ((IntKind.i64.wrap ((((s30).length : Nat) : Int) - 1)) + 1)) - ((y72).1)))).bind fun x137 => (bif (decide (0 ≤ (IntKind.i64.wrap ((IntKind.i64.wrap ((IntKind.i64.wrap ((IntKind.i64.wrap ((((s30).length : Nat) : Int) - 1)) + 1)) - ((y72).1))) + 1))) && decide ((IntKind.i64.wrap ((IntKind.i64.wrap ((IntKind.i64.wrap ((IntKind.i64.wrap ((((s30).length : Nat) : Int) - 1)) + 1)) - ((y72).1))) + 1)) ≤ ((((List.set s30 (IntKind.i64.wrap ((IntKind.i64.wrap ((IntKind.i64.wrap ((((s30).length : Nat) : Int) - 1)) + 1)) - ((y72).1))).toNat y135)).length : Nat) : Int))) then (code_Value_L1 n v0_l v1_mod v2_own v3_all v4_mem k31 (IntKind.i64.wrap (s29 + 1)) (List.take ((IntKind.i64.wrap ((IntKind.i64.wrap ((IntKind.i64.wrap ((IntKind.i64.wrap ((((s30).length : Nat) : Int) - 1)) + 1)) - ((y72).1))) + 1)).toNat) (List.set s30 (IntKind.i64.wrap ((IntKind.i64.wrap ((IntKind.i64.wrap ((((s30).length : Nat) : Int) - 1)) + 1)) - ((y72).1))).toNat y135))) else none))))) | .c9 y73 => ((idx s30 (IntKind.i64.wrap ((IntKind.i64.wrap ((IntKind.i64.wrap ((((s30).length : Nat) : Int) - 1)) + 1)) - ((y73).1)))).bind fun x141 => ((idx s30 (IntKind.i64.wrap ((((s30).length : Nat) : Int) - 1))).bind fun x142 => ((m_code_of_2 n x141 x142 v1_mod).bind fun y143 => ((idx s30 (IntKind.i64.wrap ((IntKind.i64.wrap ((IntKind.i64.wrap ((((s30).length : Nat) : Int) - 1)) + 1)) - ((y73).1)))).bind fun x145 => (bif (decide (0 ≤ (IntKind.i64.wrap ((IntKind.i64.wrap ((IntKind.i64.wrap ((IntKind.i64.wrap ((((s30).length : Nat) : Int) - 1)) + 1)) - ((y73).1))) + 1))) && decide ((IntKind.i64.wrap ((IntKind.i64.wrap ((IntKind.i64.wrap ((IntKind.i64.wrap ((((s30).length : Nat) : Int) - 1)) + 1)) - ((y73).1))) + 1)) ≤ ((((List.set s30 (IntKind.i64.wrap ((IntKind.i64.wrap ((IntKind.i64.wrap ((((s30).length : Nat) : Int) - 1)) + 1)) - ((y73).1))).toNat y143)).length : Nat) : Int))) then (code_Value_L1 n v0_l v1_mod v2_own v3_all v4_mem k31 (IntKind.i64.wrap (s29 + 1)) (List.take ((IntKind.i64.wrap ((IntKind.i64.wrap ((IntKind.i64.wrap ((IntKind.i64.wrap ((((s30).length : Nat) : Int) - 1)) + 1)) - ((y73).1))) + 1)).toNat) (List.set s30 (IntKind.i64.wrap ((IntKind.i64.wrap ((IntKind.i64.wrap ((((s30).length : Nat) : Int) - 1)) + 1)) - ((y73).1))).toNat y143))) else none))))) | .c10 y74 => ((idx s30 (IntKind.i64.wrap ((IntKind.i64.wrap ((IntKind.i64.wrap ((((s30).length : Nat) : Int) - 1)) + 1)) - ((y74).1)))).bind fun x149 => ((idx s30 (IntKind.i64.wrap ((((s30).length : Nat) : Int) - 1))).bind fun x150 => ((m_code_of_1 n x149 x150 v1_mod).bind fun y151 => ((idx s30 (IntKind.i64.wrap ((IntKind.i64.wrap ((IntKind.i64.wrap ((((s30).length : Nat) : Int) - 1)) + 1)) - ((y74).1)))).bind fun x153 => (bif (decide (0 ≤ (IntKind.i64.wrap ((IntKind.i64.wrap ((IntKind.i64.wrap ((IntKind.i64.wrap ((((s30).length : Nat) : Int) - 1)) + 1)) - ((y74).1))) + 1))) && decide ((IntKind.i64.wrap ((IntKind.i64.wrap ((IntKind.i64.wrap ((IntKind.i64.wrap ((((s30).length : Nat) : Int) - 1)) + 1)) - ((y74).1))) + 1)) ≤ ((((List.set s30 (IntKind.i64.wrap ((IntKind.i64.wrap ((IntKind.i64.wrap ((((s30).length : Nat) : Int) - 1)) + 1)) - ((y74).1))).toNat y151)).length : Nat) : Int))) then (code_Value_L1 n v0_l v1_mod v2_own v3_all v4_mem k31 (IntKind.i64.wrap (s29 + 1)) (List.take ((IntKind.i64.wrap ((IntKind.i64.wrap ((IntKind.i64.wrap ((IntKind.i64.wrap ((((s30).length : Nat) : Int) - 1)) + 1)) - ((y74).1))) + 1)).toNat) (List.set s30 (IntKind.i64.wrap ((IntKind.i64.wrap ((IntKind.i64.wrap ((((s30).length : Nat) : Int) - 1)) + 1)) - ((y74).1))).toNat y151))) else none)))))))))))) else (some (.out s30)))
def m_code_Value : Nat → (List OpS) → Int → (List Int) → (List (List Int)) → (List Int) → Option (Int × Bool)
  | 0, _, _, _, _, _ => none
  | n+1, v0_l, v1_mod, v2_own, v3_all, v4_mem => (bif decide (v1_mod < 2) then (some (0, false)) else (bif decide (16 < v1_mod) then (some (0, false)) else ((m_code_below n v1_mod ([v2_own, v4_mem] : List (List Int))).bind fun y3 => (bif y3 then ((m_code_below n v1_mod v3_all).bind fun y6 => (bif y6 then ((code_Value_L0 n v3_all n 0 ([] : List Int)).bind fun o18 => match o18 with | .out x25 => ((m_code_Right n v0_l x25 (((v2_own).length : Nat) : Int) (((v4_mem).length : Nat) : Int)).bind fun y26 => (bif y26 then ((code_Value_L1 n v0_l v1_mod v2_own v3_all v4_mem n 0 ([] : List Int)).bind fun o38 => match o38 with | .out x158 => ((idx x158 0).bind fun x159 => (some (x159, true))) | .ret v => some v) else (some (0, false)))) | .ret v => some v) else (some (0, false)))) else (some (0, false))))))

def law06_lengths_L0 (n : Nat)  (v0_s : S_law06_State) : Nat → Int → (List Int) → Option (LR (List Int) (List Int))
  | 0, _, _ => none
  | k3+1, s1, s2 => (bif decide (s1 < (((v0_s.f_All).length : Nat) : Int)) then ((idx v0_s.f_All s1).bind fun x12 => (bif decide (((s2).length + 1) * 9 ≤ 140737488355328) then (law06_lengths_L0 n v0_s k3 (IntKind.i64.wrap (s1 + 1)) (s2 ++ ([(((x12).length : Nat) : Int)] : List Int))) else none)) else (some (.out s2)))
def m_law06_lengths : Nat → S_law06_State → Option (List Int)
  | 0, _ => none
  | n+1, v0_s => ((law06_lengths_L0 n v0_s n 0 ([] : List Int)).bind fun o10 => match o10 with | .out x17 => (some x17) | .ret v => some v)

def law06_light_L0 (n : Nat)  (v0_s : S_law06_State) : Nat → Int → Option (LR Unit Bool)
  | 0, _ => none
  | k5+1, s4 => (bif decide (s4 < (((v0_s.f_All).length : Nat) : Int)) then ((idx v0_s.f_All s4).bind fun x14 => (bif decide (20 < (((x14).length : Nat) : Int)) then (some (.ret false)) else (law06_light_L0 n v0_s k5 (IntKind.i64.wrap (s4 + 1))))) else (some (.out ())))
def m_law06_light : Nat → S_law06_State → Option Bool
  | 0, _ => none
  | n+1, v0_s => (bif decide (20 < (((v0_s.f_Own).length : Nat) : Int)) then (some false) else (bif decide (8 < (((v0_s.f_All).length : Nat) : Int)) then (some false) else (bif decide (20 < (((v0_s.f_Mem).length : Nat) : Int)) then (some false) else ((law06_light_L0 n v0_s n 0).bind fun o12 => match o12 with | .out _ => (some true) | .ret v => some v))))

def law06_CodeValues_L0 (n : Nat)  (v1_s : S_law06_State) : Nat → Int → Option (LR Unit Bool)
  | 0, _ => none
  | k15+1, s14 => (bif decide (s14 < ((((([] : List Int) ++ v1_s.f_Own)).length : Nat) : Int)) then ((idx (([] : List Int) ++ v1_s.f_Own) s14).bind fun x24 => ((idx v1_s.f_Own s14).bind fun x25 => (bif (x24 != x25) then (some (.ret false)) else (law06_CodeValues_L0 n v1_s k15 (IntKind.i64.wrap (s14 + 1)))))) else (some (.out ())))
def m_law06_CodeValues : Nat → (List OpS) → S_law06_State → Option Bool
  | 0, _, _ => none
  | n+1, v0_l, v1_s => (bif decide (400 < (((v0_l).length : Nat) : Int)) then ((m_law06_known n ).bind fun y2 => (some y2)) else ((m_law06_light n v1_s).bind fun y4 => (bif y4 then (bif decide (((([] : List Int)).length + (v1_s.f_Own).length) * 9 ≤ 140737488355328) then ((m_code_Value n v0_l v1_s.f_Mod (([] : List Int) ++ v1_s.f_Own) v1_s.f_All v1_s.f_Mem).bind fun y10 => ((m_ref06_Value n v0_l v1_s.f_Mod v1_s.f_Own v1_s.f_All v1_s.f_Mem).bind fun y12 => ((law06_CodeValues_L0 n v1_s n 0).bind fun o22 => match o22 with | .out _ => (bif (((y10).1) == ((y12).1)) then (bif ((y10).2 == (y12).2) then ((m_code_Depth n v0_l).bind fun y30 => ((m_ref06_Depth n v0_l).bind fun y32 => (bif (y30 == y32) then ((m_law06_lengths n v1_s).bind fun y35 => ((m_code_Right n v0_l y35 (((v1_s.f_Own).length : Nat) : Int) (((v1_s.f_Mem).length : Nat) : Int)).bind fun y37 => ((m_law06_lengths n v1_s).bind fun y39 => ((m_ref06_Right n v0_l y39 (((v1_s.f_Own).length : Nat) : Int) (((v1_s.f_Mem).length : Nat) : Int)).bind fun y41 => (bif (y37 == y41) then ((m_law06_known n ).bind fun y44 => (some y44)) else (some false)))))) else (some false)))) else (some false)) else (some false)) | .ret v => some v))) else none) else ((m_law06_known n ).bind fun y47 => (some y47)))))
end Go.Proofs.Ytmnnkeejgkhgpaa
end

section
namespace Go.Proofs.Ytmnnkeejgkhgpaa
set_option linter.unusedVariables false
set_option linter.unusedSimpArgs false

theorem wrap_one (k : Nat) (h : k < 4611686018427387904) : IntKind.i64.wrap ((k : Int) + 1) = ((k + 1 : Nat) : Int) := wrap_succ k (by omega)
theorem bif_decide {α : Type} {p : Prop} [Decidable p] (h : p) (a b : α) : (bif decide p then a else b) = a := by rw [decide_eq_true h]; rfl
theorem bif_not {α : Type} {p : Prop} [Decidable p] (h : ¬ p) (a b : α) : (bif decide p then a else b) = b := by rw [decide_eq_false h]; rfl
theorem idx_of {α : Type} {l : List α} {i : Int} (h0 : 0 ≤ i) : idx l i = l[i.toNat]? := by unfold idx; rw [decide_eq_true h0]; rfl
end Go.Proofs.Ytmnnkeejgkhgpaa
end

section
namespace Go.Proofs.Ytmnnkeejgkhgpaa
set_option linter.unusedVariables false
set_option linter.unusedSimpArgs false

/-- A loop over a row. -/
theorem loop_list {α σ ρ : Type} (l : List α) (L : Nat → Nat → σ → Option ρ) (F : List α → σ → Option ρ) (Inv : Nat → σ → Prop)
    (h0 : ∀ k s, Inv l.length s → L (k + 1) l.length s = F [] s)
    (h1 : ∀ k i s x, i < l.length → l[i]? = some x → Inv i s → (∀ s', Inv (i + 1) s' → L k (i + 1) s' = F (l.drop (i + 1)) s') → L (k + 1) i s = F (x :: l.drop (i + 1)) s) :
    ∀ (m k i : Nat) (s : σ), i + m = l.length → m < k → Inv i s → L k i s = F (l.drop i) s := by
  intro m
  induction m with
  | zero =>
    intro k i s hi hk hs
    obtain ⟨k, rfl⟩ : ∃ j, k = j + 1 := ⟨k - 1, by omega⟩
    obtain rfl : i = l.length := by omega
    rw [h0 k s hs, List.drop_length]
  | succ m ih =>
    intro k i s hi hk hs
    obtain ⟨k, rfl⟩ : ∃ j, k = j + 1 := ⟨k - 1, by omega⟩
    have hlt : i < l.length := by omega
    rw [h1 k i s l[i] hlt (List.getElem?_eq_getElem hlt) hs (fun s' hs' => ih k (i + 1) s' (by omega) (by omega) hs'), List.drop_eq_getElem_cons hlt]
theorem loop_list0 {α σ ρ : Type} (l : List α) (L : Nat → Nat → σ → Option ρ) (F : List α → σ → Option ρ) (Inv : Nat → σ → Prop) {k : Nat} {s : σ} (hk : l.length < k) (hs : Inv 0 s)
    (h0 : ∀ k s, Inv l.length s → L (k + 1) l.length s = F [] s)
    (h1 : ∀ k i s x, i < l.length → l[i]? = some x → Inv i s → (∀ s', Inv (i + 1) s' → L k (i + 1) s' = F (l.drop (i + 1)) s') → L (k + 1) i s = F (x :: l.drop (i + 1)) s) :
    L k 0 s = F l s := loop_list l L F Inv h0 h1 l.length k 0 s (by omega) hk hs
theorem idx_some {α : Type} {l : List α} {i : Nat} {x : α} (h : l[i]? = some x) : idx l (i : Int) = some x := by rw [idx_nat, h]

theorem op_cases (op : Int) : op < 1 ∨ 15 ≤ op ∨ op = 1 ∨ op = 2 ∨ op = 3 ∨ op = 4 ∨ op = 5 ∨ op = 6 ∨ op = 7 ∨ op = 8 ∨ op = 9 ∨ op = 10 ∨ op = 11 ∨ op = 12 ∨ op = 13 ∨ op = 14 := by omega
theorem bif_and {α : Type} (p q : Prop) [Decidable p] [Decidable q] (a b : α) : (bif decide (p ∧ q) then a else b) = bif decide p then bif decide q then a else b else b := by
  by_cases hp : p <;> by_cases hq : q <;> simp [hp, hq]
theorem bif_flip {α : Type} {p q : Prop} [Decidable p] [Decidable q] (h : p ↔ ¬ q) (a b : α) : (bif decide p then a else b) = bif decide q then b else a := by
  by_cases hq : q
  · have : ¬ p := fun hp => h.1 hp hq
    simp [this, hq]
  · have : p := h.2 hq
    simp [this, hq]
theorem bif_band {α : Type} (c d : Bool) (a b : α) : (bif c && d then a else b) = bif c then bif d then a else b else b := by cases c <;> rfl
theorem two_ne {α : Type} (n lim : Int) (a b : α) : (bif decide (n < 0) then b else bif decide (lim ≤ n) then b else a) = bif decide (0 ≤ n ∧ n < lim) then a else b := by
  rw [bif_and, bif_flip (p := 0 ≤ n) (q := n < 0) (by omega), bif_flip (p := n < lim) (q := lim ≤ n) (by omega)]
theorem two_none {α : Type} (n : Int) (a b : α) : (bif decide (n < 0) then b else bif decide (0 ≤ n) then b else a) = b := by
  rw [two_ne]; by_cases h : 0 ≤ n ∧ n < 0
  · omega
  · rw [bif_not h]
theorem all_list {α : Type} (l : List α) (L : Nat → Nat → Option (LR Unit Bool)) (p : α → Bool) (h0 : ∀ k, L (k + 1) l.length = some (.out ()))
    (h1 : ∀ k i x, i < l.length → l[i]? = some x → L (k + 1) i = bif p x then L k (i + 1) else some (.ret false)) {k : Nat} (hk : l.length < k) : L k 0 = bif l.all p then some (.out ()) else some (.ret false) := by
  refine loop_list0 l (fun k i (_ : Unit) => L k i) (fun l _ => bif l.all p then some (.out ()) else some (.ret false)) (fun _ _ => True) (s := ()) hk trivial (fun k s _ => h0 k) ?_
  intro k i s x hi hx _ ih
  rw [h1 k i x hi hx, ih () trivial, List.all_cons]
  cases p x <;> rfl
theorem map_list {α β ν : Type} (l : List α) (f : α → β) (L : Nat → Nat → List β → Option (LR (List β) ν)) (h0 : ∀ k s, L (k + 1) l.length s = some (.out s))
    (h1 : ∀ k i x s, i < l.length → l[i]? = some x → s.length = i → L (k + 1) i s = L k (i + 1) (s ++ [f x])) {k : Nat} (hk : l.length < k) : L k 0 [] = some (.out (l.map f)) := by
  have := loop_list0 l L (fun l s => some (.out (s ++ l.map f))) (fun i s => s.length = i) (s := []) hk rfl (fun k s _ => by rw [h0 k]; simp) ?_
  · rw [this]; rfl
  · intro k i s x hi hx hs ih
    rw [h1 k i x s hi hx hs, ih _ (by simp [hs])]; simp
end Go.Proofs.Ytmnnkeejgkhgpaa
end

section
namespace Go.Proofs.Ytmnnkeejgkhgpaa
set_option linter.unusedVariables false
set_option linter.unusedSimpArgs false

theorem known06 : m_law06_known 999 = some true := by decide +kernel

/-- What an operator takes. -/
def takes (op : Int) : Int := if 1 ≤ op ∧ op ≤ 4 then 0 else if op = 5 then 1 else if 6 ≤ op ∧ op ≤ 14 then 2 else 1000000
def liesF : List OpS → Int × Int → Int × Int
  | [], s => s
  | x :: l, s => if s.1 < takes x.op then (-1, -1) else liesF l (s.1 + (1 - takes x.op), if s.2 < s.1 + (1 - takes x.op) then s.1 + (1 - takes x.op) else s.2)
def out2 (r : LR (Int × Int) (Int × Int)) : Int × Int := match r with
  | .out x => x
  | .ret x => x
def yv : R_code_of → Int × Bool
  | .c0 x | .c1 x | .c2 x | .c3 x | .c4 x | .c5 x | .c6 x | .c7 x | .c8 x | .c9 x | .c10 x => x
theorem of_yv (n : Nat) (op : Int) : ∃ y, m_code_of (n + 1) op = some y ∧ yv y = (if 1 ≤ op ∧ op ≤ 4 ∨ op < 5 ∨ 15 ≤ op then 0 else takes op, decide (5 ≤ op ∧ op ≤ 14)) := by
  rcases op_cases op with h | h | h | h | h | h | h | h | h | h | h | h | h | h | h | h
  · refine ⟨.c0 (0, false), by rw [m_code_of, bif_decide (by omega)], ?_⟩
    rw [if_pos (by omega), decide_eq_false (by omega)]; rfl
  · refine ⟨.c0 (0, false), by rw [m_code_of, bif_not (by omega), bif_decide (by omega)], ?_⟩
    rw [if_pos (by omega), decide_eq_false (by omega)]; rfl
  all_goals subst h; exact ⟨_, rfl, by decide⟩
theorem lies_step (n : Nat) (l : List OpS) (k : Nat) (s1 s2 s3 : Int) : code_lies_L0 n l (k + 1) s1 s2 s3 = (bif decide (s3 < ((l.length : Nat) : Int)) then ((idx l s3).bind fun x => ((m_code_of n x.op).bind fun y =>
    (bif decide (1 ≤ x.op) && decide (x.op ≤ 4) || (yv y).2 then bif decide (s1 < (yv y).1) then some (.ret (-1, -1)) else code_lies_L0 n l k (IntKind.i64.wrap (s1 + (IntKind.i64.wrap (1 - (yv y).1)))) (if s2 < (IntKind.i64.wrap (s1 + (IntKind.i64.wrap (1 - (yv y).1)))) then (IntKind.i64.wrap (s1 + (IntKind.i64.wrap (1 - (yv y).1)))) else s2) (IntKind.i64.wrap (s3 + 1)) else some (.ret (-1, -1))))) else (some (.out (s1, s2)))) := by
  rw [code_lies_L0]
  congr 1
  refine congrArg _ (funext fun x => congrArg _ (funext fun y => ?_))
  cases y <;> rename_i x2 <;> obtain ⟨a, b⟩ := x2 <;> cases b <;> cases decide (1 ≤ x.op) <;> cases decide (x.op ≤ 4) <;> rfl
theorem lies_L (n : Nat) (l : List OpS) (hl : l.length < 1000000) {k : Nat} (hk : l.length < k) : (code_lies_L0 (n + 1) l k 0 0 0).map out2 = some (liesF l (0, 0)) := by
  refine loop_list0 l (fun k i s => (code_lies_L0 (n + 1) l k s.1 s.2 (i : Int)).map out2) (fun l s => some (liesF l s)) (fun i s => 0 ≤ s.1 ∧ s.1 ≤ i ∧ 0 ≤ s.2 ∧ s.2 ≤ i) (s := (0, 0)) hk (by simp) ?_ ?_
  · intro k s hs
    rw [lies_step, bif_not (by omega)]; rfl
  · rintro k i ⟨a, b⟩ x hi hx ⟨h1, h2, h3, h4⟩ ih
    dsimp only at h1 h2 h3 h4 ⊢
    have hlt : (i : Int) < (l.length : Int) := by omega
    obtain ⟨y, e1, e2⟩ := of_yv n x.op
    rw [lies_step, bif_decide hlt, idx_some hx, wrap_one i (by omega)]
    simp only [Option.bind_some, liesF, e1, e2]
    by_cases c : 1 ≤ x.op ∧ x.op ≤ 14
    · have ht : takes x.op = 0 ∧ x.op ≤ 4 ∨ (takes x.op = 1 ∨ takes x.op = 2) ∧ 5 ≤ x.op := by unfold takes; split <;> (try split) <;> (try split) <;> omega
      have ct : (if 1 ≤ x.op ∧ x.op ≤ 4 ∨ x.op < 5 ∨ 15 ≤ x.op then 0 else takes x.op) = takes x.op := by split <;> omega
      have c2 : (decide (1 ≤ x.op) && decide (x.op ≤ 4) || decide (5 ≤ x.op ∧ x.op ≤ 14)) = true := by simp; omega
      rw [ct, c2, cond_true]
      by_cases c3 : a < takes x.op
      · rw [bif_decide c3, if_pos c3]; rfl
      · rw [bif_not c3, if_neg c3, wrap64 (n := 1 - takes x.op) (by omega), wrap64 (by omega)]
        have hm : 0 ≤ (if b < a + (1 - takes x.op) then a + (1 - takes x.op) else b) ∧ (if b < a + (1 - takes x.op) then a + (1 - takes x.op) else b) ≤ ((i + 1 : Nat) : Int) := by split <;> omega
        exact ih (_, _) ⟨by omega, by omega, hm.1, hm.2⟩
    · have c2 : (decide (1 ≤ x.op) && decide (x.op ≤ 4) || decide (5 ≤ x.op ∧ x.op ≤ 14)) = false := by simp; omega
      have ht : takes x.op = 1000000 := by unfold takes; repeat' split
                                           all_goals omega
      rw [c2, cond_false, if_pos (by omega)]; rfl
theorem lies_m (n : Nat) (l : List OpS) (hl : l.length < 1000000) (hn : l.length + 2 < n) : m_code_lies n l = some (liesF l (0, 0)) := by
  obtain ⟨n, rfl⟩ : ∃ j, n = j + 2 := ⟨n - 2, by omega⟩
  have := lies_L n l hl (k := n + 1) (by omega)
  obtain ⟨r, h1, h2⟩ := Option.map_eq_some_iff.1 this
  rw [m_code_lies, h1]
  cases r with
  | out x => obtain ⟨a, b⟩ := x; exact congrArg some h2
  | ret x => exact congrArg some h2
theorem depth_m (n : Nat) (l : List OpS) (hl : l.length < 1000000) (hn : l.length + 3 < n) : m_code_Depth n l = some (liesF l (0, 0)).2 := by
  obtain ⟨n, rfl⟩ : ∃ j, n = j + 1 := ⟨n - 1, by omega⟩
  rw [m_code_Depth, lies_m n l hl (by omega)]; rfl

/-- May an operation stand so? -/
def opOk (regs : List Int) (own locs : Int) (x : OpS) : Bool :=
  if x.op = 1 then decide (0 ≤ x.n ∧ x.n < 10000) else if x.op = 2 then decide (0 ≤ x.n ∧ x.n < own) else if x.op = 3 then decide (0 ≤ x.n ∧ x.n < locs)
  else if x.op = 4 then (if 0 ≤ x.t then match regs[x.t.toNat]? with | some r => decide (0 ≤ x.n ∧ x.n < r) | none => false else false) else true
def codeOk (l : List OpS) (regs : List Int) (own locs : Int) : Bool := l.all (opOk regs own locs) && decide ((liesF l (0, 0)).1 = 1)
theorem cr_L (n : Nat) (l : List OpS) (regs : List Int) (own locs : Int) (hl : l.length < 1000000) {k : Nat} (hk : l.length < k) : code_Right_L0 n l regs own locs k 0 = bif l.all (opOk regs own locs) then some (.out ()) else some (.ret false) := by
  refine loop_list0 l (fun k i (_ : Unit) => code_Right_L0 n l regs own locs k (i : Int)) (fun l _ => bif l.all (opOk regs own locs) then some (.out ()) else some (.ret false)) (fun _ _ => True) (s := ()) hk trivial ?_ ?_
  · intro k s hs
    rw [code_Right_L0, bif_not (by omega)]; rfl
  · rintro k i _ x hi hx _ ih
    have hlt : (i : Int) < (l.length : Int) := by omega
    have ih := ih () trivial
    rw [code_Right_L0, bif_decide hlt, idx_some hx, wrap_one i (by omega)]
    simp only [Option.bind_some, List.all_cons, ih, two_ne, two_none, bif_band]
    generalize (bif List.all (List.drop (i + 1) l) (opOk regs own locs) then some (LR.out ()) else some (LR.ret false)) = r
    unfold opOk
    by_cases c1 : x.op = 1
    · rw [if_pos c1, c1]; rfl
    by_cases c2 : x.op = 2
    · rw [if_neg c1, if_pos c2, c2]; rfl
    by_cases c3 : x.op = 3
    · rw [if_neg c1, if_neg c2, if_pos c3, c3]; rfl
    rw [if_neg c1, if_neg c2, if_neg c3, beq_eq_false_iff_ne.2 c1, beq_eq_false_iff_ne.2 c2, beq_eq_false_iff_ne.2 c3]
    by_cases c4 : x.op = 4
    · rw [if_pos c4, c4]
      by_cases g0 : 0 ≤ x.t
      · rw [if_pos g0]
        by_cases g1 : x.t < (regs.length : Int)
        · rw [idx_of g0, List.getElem?_eq_getElem (by omega)]
          simp only [g0, g1, decide_true, cond_true, cond_false, Option.bind_some, beq_self_eq_true]
        · rw [List.getElem?_eq_none (by omega)]
          simp only [g0, g1, decide_true, decide_false, cond_true, cond_false, beq_self_eq_true]
          exact bif_not (by omega) _ _
      · simp only [g0, decide_true, decide_false, cond_true, cond_false, beq_self_eq_true, if_false]
        exact bif_not (by omega) _ _
    · rw [if_neg c4, beq_eq_false_iff_ne.2 c4]; rfl
theorem cright_code (n : Nat) (l : List OpS) (regs : List Int) (own locs : Int) (hl : l.length < 1000000) (hn : l.length + 4 < n) : m_code_Right n l regs own locs = some (codeOk l regs own locs) := by
  obtain ⟨n, rfl⟩ : ∃ j, n = j + 1 := ⟨n - 1, by omega⟩
  rw [m_code_Right, cr_L n l regs own locs hl (by omega), codeOk]
  cases l.all (opOk regs own locs) with
  | false => rfl
  | true =>
    simp only [cond_true, Option.bind_some, lies_m n l hl (by omega), Bool.true_and]
    rfl

end Go.Proofs.Ytmnnkeejgkhgpaa
end

section
namespace Go.Proofs.Ytmnnkeejgkhgpaa
set_option linter.unusedVariables false
set_option linter.unusedSimpArgs false

def doOf (n : Nat) : R_code_of → Int → Int → Int → Option Int
  | .c0 _ => fun _ _ _ => none
  | .c1 _ => m_code_of_10 n
  | .c2 _ => m_code_of_9 n
  | .c3 _ => m_code_of_8 n
  | .c4 _ => m_code_of_7 n
  | .c5 _ => m_code_of_6 n
  | .c6 _ => m_code_of_5 n
  | .c7 _ => m_code_of_4 n
  | .c8 _ => m_code_of_3 n
  | .c9 _ => m_code_of_2 n
  | .c10 _ => m_code_of_1 n
def isC0 : R_code_of → Bool
  | .c0 _ => true
  | _ => false
/-- Where the operands begin. -/
def atW (len : Nat) (t : Int) : Int := IntKind.i64.wrap ((IntKind.i64.wrap ((IntKind.i64.wrap ((len : Int) - 1)) + 1)) - t)
theorem val_step (n : Nat) (l : List OpS) (mod : Int) (own : List Int) (all : List (List Int)) (mem : List Int) (k : Nat) (i : Int) (s : List Int) : code_Value_L1 n l mod own all mem (k + 1) i s =
    (bif decide (i < ((l.length : Nat) : Int)) then ((idx l i).bind fun x =>
      (bif (x.op == 1) then (bif decide (mod = 0) then none else (bif decide ((s.length + 1) * 9 ≤ 140737488355328) then code_Value_L1 n l mod own all mem k (IntKind.i64.wrap (i + 1)) (s ++ [Int.tmod x.n mod]) else none))
      else bif (x.op == 2) then ((idx own x.n).bind fun v => (bif decide ((s.length + 1) * 9 ≤ 140737488355328) then code_Value_L1 n l mod own all mem k (IntKind.i64.wrap (i + 1)) (s ++ [v]) else none))
      else bif (x.op == 3) then ((idx mem x.n).bind fun v => (bif decide ((s.length + 1) * 9 ≤ 140737488355328) then code_Value_L1 n l mod own all mem k (IntKind.i64.wrap (i + 1)) (s ++ [v]) else none))
      else bif (x.op == 4) then ((idx all x.t).bind fun u => ((idx u x.n).bind fun v => (bif decide ((s.length + 1) * 9 ≤ 140737488355328) then code_Value_L1 n l mod own all mem k (IntKind.i64.wrap (i + 1)) (s ++ [v]) else none)))
      else ((m_code_of n x.op).bind fun y => bif isC0 y then none else
          ((idx s (atW s.length (yv y).1)).bind fun a => ((idx s (IntKind.i64.wrap ((s.length : Int) - 1))).bind fun b => ((doOf n y a b mod).bind fun v => ((idx s (atW s.length (yv y).1)).bind fun _ =>
          (bif (decide (0 ≤ IntKind.i64.wrap (atW s.length (yv y).1 + 1)) && decide (IntKind.i64.wrap (atW s.length (yv y).1 + 1) ≤ (((List.set s (atW s.length (yv y).1).toNat v).length : Nat) : Int))) then
            code_Value_L1 n l mod own all mem k (IntKind.i64.wrap (i + 1)) (List.take (IntKind.i64.wrap (atW s.length (yv y).1 + 1)).toNat (List.set s (atW s.length (yv y).1).toNat v)) else none))))))))
    else (some (.out s))) := by
  rw [code_Value_L1]
  congr 1
  refine congrArg _ (funext fun x => ?_)
  congr 1; congr 1; congr 1; congr 1
  refine congrArg _ (funext fun y => ?_)
  cases y <;> rfl

def b2i (c : Bool) : Int := bif c then 1 else 0
/-- What an operator makes of two numbers. -/
def twoF (op a b mod : Int) : Int := if op = 5 then b2i (b == 0) else if op = 6 then Int.tmod (a + b) mod else if op = 7 then Int.tmod (a + mod - b) mod else if op = 8 then Int.tmod (a * b) mod
  else if op = 9 then b2i (a == b) else if op = 10 then b2i (a != b) else if op = 11 then b2i (decide (a < b)) else if op = 12 then b2i (decide (a ≤ b)) else if op = 13 then b2i (a * b != 0) else b2i (a + b != 0)
def inR (mod v : Int) : Prop := 0 ≤ v ∧ v < mod
theorem b2i_in (c : Bool) {mod : Int} (h : 2 ≤ mod) : inR mod (b2i c) := by cases c <;> (unfold inR b2i; simp; omega)
theorem tmod_in {x mod : Int} (h : 2 ≤ mod) (hx : 0 ≤ x) : inR mod (Int.tmod x mod) := by
  rw [Int.tmod_eq_emod_of_nonneg hx]; exact ⟨Int.emod_nonneg _ (by omega), Int.emod_lt_of_pos _ (by omega)⟩
theorem mul_in {a b mod : Int} (h : 2 ≤ mod ∧ mod ≤ 16) (ha : inR mod a) (hb : inR mod b) : 0 ≤ a * b ∧ a * b ≤ 256 := by
  obtain ⟨a0, a1⟩ := ha; obtain ⟨b0, b1⟩ := hb
  refine ⟨Int.mul_nonneg a0 b0, ?_⟩
  calc a * b ≤ 16 * 16 := Int.mul_le_mul (by omega) (by omega) b0 (by omega)
    _ ≤ 256 := by omega
theorem twoF_in {op a b mod : Int} (h : 2 ≤ mod ∧ mod ≤ 16) (ha : inR mod a) (hb : inR mod b) : inR mod (twoF op a b mod) := by
  have := mul_in h ha hb
  obtain ⟨a0, a1⟩ := ha; obtain ⟨b0, b1⟩ := hb
  unfold twoF
  repeat' split
  all_goals first | exact b2i_in _ h.1 | exact tmod_in h.1 (by omega)
theorem truth_m (n : Nat) (c : Bool) : m_code_truth (n + 1) c = some (b2i c) := by cases c <;> rfl
theorem doOf_eq (n m : Nat) {op a b mod : Int} {y : R_code_of} (h : 2 ≤ mod ∧ mod ≤ 16) (ha : inR mod a) (hb : inR mod b) (ho : 5 ≤ op ∧ op ≤ 14) (hy : m_code_of (m + 1) op = some y) :
    doOf (n + 2) y a b mod = some (twoF op a b mod) := by
  have hm := mul_in h ha hb
  obtain ⟨a0, a1⟩ := ha; obtain ⟨b0, b1⟩ := hb
  have w1 : IntKind.i64.wrap (a + b) = a + b := wrap64 (by omega)
  have w2 : IntKind.i64.wrap (a * b) = a * b := wrap64 (by omega)
  have w3 : IntKind.i64.wrap (a + mod) = a + mod := wrap64 (by omega)
  have w4 : IntKind.i64.wrap (a + mod - b) = a + mod - b := wrap64 (by omega)
  have w5 : ¬ mod = 0 := by omega
  rcases op_cases op with h | h | h | h | h | h | h | h | h | h | h | h | h | h | h | h
  all_goals try omega
  all_goals subst h; obtain rfl := Option.some.inj hy
  · simp only [doOf, m_code_of_1, truth_m]; rfl
  · simp only [doOf, m_code_of_2, bif_not w5, w1]; rfl
  · simp only [doOf, m_code_of_3, bif_not w5, w3, w4]; rfl
  · simp only [doOf, m_code_of_4, bif_not w5, w2]; rfl
  · simp only [doOf, m_code_of_5, truth_m]; rfl
  · simp only [doOf, m_code_of_6, truth_m]; rfl
  · simp only [doOf, m_code_of_7, truth_m]; rfl
  · simp only [doOf, m_code_of_8, truth_m]; rfl
  · simp only [doOf, m_code_of_9, truth_m, w2]; rfl
  · simp only [doOf, m_code_of_10, truth_m, w1]; rfl

/-- What an operation makes of the numbers that lie there (the last one first). -/
def runF (mod : Int) (own : List Int) (all : List (List Int)) (mem : List Int) : List OpS → List Int → List Int
  | [], R => R
  | x :: l, R => runF mod own all mem l (if x.op = 1 then Int.tmod x.n mod :: R else if x.op = 2 then own.getD x.n.toNat 0 :: R else if x.op = 3 then mem.getD x.n.toNat 0 :: R
      else if x.op = 4 then (all.getD x.t.toNat []).getD x.n.toNat 0 :: R else if x.op = 5 then twoF 5 0 (R.getD 0 0) mod :: R.drop 1 else twoF x.op (R.getD 1 0) (R.getD 0 0) mod :: R.drop 2)
structure Good (mod : Int) (own : List Int) (all : List (List Int)) (mem : List Int) : Prop where
  h : 2 ≤ mod ∧ mod ≤ 16
  own : ∀ v ∈ own, inR mod v
  all : ∀ r ∈ all, ∀ v ∈ r, inR mod v
  mem : ∀ v ∈ mem, inR mod v
def lensOf (all : List (List Int)) : List Int := all.map fun r => ((r.length : Nat) : Int)
theorem get_in {mod : Int} {l : List Int} (hl : ∀ v ∈ l, inR mod v) {n : Int} (hn : 0 ≤ n ∧ n < (l.length : Int)) : idx l n = some (l.getD n.toNat 0) ∧ inR mod (l.getD n.toNat 0) := by
  have h : n.toNat < l.length := by omega
  rw [idx_of hn.1, List.getD_eq_getElem?_getD, List.getElem?_eq_getElem h]
  exact ⟨rfl, hl _ (List.getElem_mem h)⟩
theorem atW_eq {len : Nat} {t : Int} (hl : len < 1000000) (ht : 0 ≤ t ∧ t ≤ len) : atW len t = (len : Int) - t := by
  unfold atW
  rw [wrap64 (n := (len : Int) - 1) (by omega), wrap64 (n := (len : Int) - 1 + 1) (by omega), wrap64 (by omega)]; omega
theorem rev_get {R : List Int} {j : Nat} (h : j < R.length) : R.reverse[R.length - 1 - j]? = some (R.getD j 0) := by
  rw [List.getElem?_reverse (by omega), List.getD_eq_getElem?_getD]
  have : R.length - 1 - (R.length - 1 - j) = j := by omega
  rw [this, List.getElem?_eq_getElem h]; rfl
theorem take_set {α : Type} (v : α) : ∀ (l : List α) (n : Nat), n < l.length → List.take (n + 1) (l.set n v) = l.take n ++ [v]
  | [], n, h => by simp at h
  | a :: l, 0, h => by simp
  | a :: l, n + 1, h => by
    rw [List.set_cons_succ, List.take_succ_cons, List.take_succ_cons, take_set v l n (by simpa using h)]; rfl
theorem rev_cut {R : List Int} {t : Nat} (v : Int) (h : 1 ≤ t ∧ t ≤ R.length) : List.take (R.length - t + 1) (R.reverse.set (R.length - t) v) = (v :: R.drop t).reverse := by
  rw [take_set v _ _ (by rw [List.length_reverse]; omega), List.take_reverse, List.reverse_cons, show R.length - (R.length - t) = t by omega]
theorem valF_L (n : Nat) (l : List OpS) {mod : Int} {own : List Int} {all : List (List Int)} {mem : List Int} (G : Good mod own all mem) (hl : l.length < 1000000) (hok : ∀ x ∈ l, opOk (lensOf all) own.length mem.length x = true) (hr : (liesF l (0, 0)).1 ≠ -1) {k : Nat} (hk : l.length < k) :
    code_Value_L1 (n + 2) l mod own all mem k 0 [] = some (.out (runF mod own all mem l []).reverse) := by
  refine loop_list0 l (fun k i R => code_Value_L1 (n + 2) l mod own all mem k (i : Int) R.reverse) (fun l R => some (.out (runF mod own all mem l R).reverse))
    (fun i R => R.length ≤ i ∧ (∀ v ∈ R, inR mod v) ∧ ∃ m, (liesF (l.drop i) ((R.length : Int), m)).1 ≠ -1) (s := []) hk ⟨Nat.le_refl _, by simp, 0, hr⟩ ?_ ?_
  · intro k s hs
    rw [val_step, bif_not (by omega)]; rfl
  · rintro k i R x hi hx ⟨r1, r2, m, r3⟩ ih
    have hlt : (i : Int) < (l.length : Int) := by omega
    have hd : l.drop i = x :: l.drop (i + 1) := by rw [List.drop_eq_getElem_cons hi]; rw [List.getElem?_eq_getElem hi] at hx; rw [Option.some.inj hx]
    have hmem : x ∈ l := List.mem_of_getElem? hx
    have ho := hok x hmem
    have hmod := G.h
    rw [hd, liesF] at r3
    have ht : ¬ ((R.length : Int) < takes x.op) := by
      intro c; rw [if_pos c] at r3; exact r3 rfl
    rw [if_neg ht] at r3
    rw [val_step, bif_decide hlt, idx_some hx, wrap_one i (by omega)]
    have c0 : ¬ mod = 0 := by omega
    simp only [Option.bind_some, runF, List.length_reverse, bif_not c0, bif_decide (show (R.length + 1) * 9 ≤ 140737488355328 by omega)]
    have push : ∀ v, inR mod v → takes x.op = 0 → code_Value_L1 (n + 2) l mod own all mem k ((i + 1 : Nat) : Int) (R.reverse ++ [v]) = some (.out (runF mod own all mem (l.drop (i + 1)) (v :: R)).reverse) := by
      intro v hv h0
      have := ih (v :: R) ⟨by simp; omega, by simpa using ⟨hv, r2⟩, _, by
        rw [List.length_cons]
        rw [h0] at r3
        have e : ((R.length + 1 : Nat) : Int) = (R.length : Int) + (1 - 0) := by omega
        rw [e]; exact r3⟩
      rw [← this, List.reverse_cons]
    unfold opOk at ho
    by_cases c1 : x.op = 1
    · rw [if_pos c1, decide_eq_true_eq] at ho
      simp only [c1, if_true, beq_self_eq_true, cond_true]
      exact push _ (tmod_in hmod.1 ho.1) (by rw [c1]; rfl)
    by_cases c2 : x.op = 2
    · rw [if_neg c1, if_pos c2, decide_eq_true_eq] at ho
      simp only [c1, c2, if_true, if_false, beq_self_eq_true, cond_true, cond_false, beq_eq_false_iff_ne.2 c1, show ((2 : Int) == 1) = false from rfl, show ¬ (2 : Int) = 1 by omega]
      obtain ⟨e1, e2⟩ := get_in G.own ho
      rw [e1]
      exact push _ e2 (by rw [c2]; rfl)
    by_cases c3 : x.op = 3
    · rw [if_neg c1, if_neg c2, if_pos c3, decide_eq_true_eq] at ho
      simp only [c3, if_true, if_false, beq_self_eq_true, cond_true, cond_false, show ((3 : Int) == 1) = false from rfl, show ((3 : Int) == 2) = false from rfl, show ¬ (3 : Int) = 1 by omega, show ¬ (3 : Int) = 2 by omega]
      obtain ⟨e1, e2⟩ := get_in G.mem ho
      rw [e1]
      exact push _ e2 (by rw [c3]; rfl)
    rw [if_neg c1, if_neg c2, if_neg c3] at ho
    rw [beq_eq_false_iff_ne.2 c1, beq_eq_false_iff_ne.2 c2, beq_eq_false_iff_ne.2 c3, if_neg c1, if_neg c2, if_neg c3]
    by_cases c4 : x.op = 4
    · rw [if_pos c4] at ho
      rw [c4, if_pos rfl]
      split at ho
      · rename_i g0
        split at ho
        · rename_i r hr
          rw [lensOf, List.getElem?_map] at hr
          obtain ⟨u, hu, rfl⟩ := Option.map_eq_some_iff.1 hr
          rw [decide_eq_true_eq] at ho
          have hu' : idx all x.t = some u := by rw [idx_of g0, hu]
          obtain ⟨e1, e2⟩ := get_in (G.all u (List.mem_of_getElem? hu)) ho
          have e3 : all.getD x.t.toNat [] = u := by rw [List.getD_eq_getElem?_getD, hu]; rfl
          simp only [cond_false, beq_self_eq_true, cond_true, hu', Option.bind_some, e1, e3]
          exact push _ e2 (by rw [c4]; rfl)
        · cases ho
      · cases ho
    rw [if_neg c4, beq_eq_false_iff_ne.2 c4]
    have h5 : 5 ≤ x.op ∧ x.op ≤ 14 := by unfold takes at ht; repeat' split at ht
                                         all_goals omega
    obtain ⟨y, e1, e2⟩ := of_yv (n + 1) x.op
    rw [e1]
    have e3 : (yv y).1 = takes x.op := by rw [e2]; exact if_neg (by omega)
    have hlen : R.length < 1000000 := by omega
    have tk : takes x.op = if x.op = 5 then 1 else 2 := by unfold takes; rw [if_neg (by omega)]; split
                                                           · rfl
                                                           · rw [if_pos (by omega)]
    have hy : isC0 y = false := by
      rcases op_cases x.op with h | h | h | h | h | h | h | h | h | h | h | h | h | h | h | h
      all_goals try omega
      all_goals rw [h] at e1; obtain rfl := Option.some.inj e1; rfl
    obtain ⟨t, ht1, ht2, ht3⟩ : ∃ t : Nat, takes x.op = t ∧ 1 ≤ t ∧ t ≤ R.length := ⟨(takes x.op).toNat, by rw [tk]; split <;> rfl, by rw [tk]; split <;> decide, by rw [tk] at ht ⊢; split at ht <;> split <;> omega⟩
    have p1 : idx R.reverse ((R.length : Int) - t) = some (R.getD (t - 1) 0) := by
      rw [show (R.length : Int) - t = ((R.length - 1 - (t - 1) : Nat) : Int) by omega, idx_nat, rev_get (by omega)]
    have p2 : idx R.reverse ((R.length : Int) - 1) = some (R.getD 0 0) := by
      rw [show (R.length : Int) - 1 = ((R.length - 1 - 0 : Nat) : Int) by omega, idx_nat, rev_get (by omega)]
    have gin : ∀ j, j < R.length → inR mod (R.getD j 0) := fun j hj => by
      rw [List.getD_eq_getElem?_getD, List.getElem?_eq_getElem hj]; exact r2 _ (List.getElem_mem hj)
    have d1 := doOf_eq n (n + 1) hmod (gin (t - 1) (by omega)) (gin 0 (by omega)) h5 e1
    simp only [cond_false, Option.bind_some, hy, e3, ht1]
    rw [atW_eq hlen (by omega), p1, wrap64 (n := (R.length : Int) - 1) (by omega), p2, wrap64 (by omega)]
    simp only [Option.bind_some, d1, List.length_set, List.length_reverse]
    rw [show ((R.length : Int) - (t : Int) + 1).toNat = R.length - t + 1 by omega, show ((R.length : Int) - (t : Int)).toNat = R.length - t by omega, rev_cut _ ⟨ht2, ht3⟩]
    have c5 : (decide (0 ≤ (R.length : Int) - (t : Int) + 1) && decide ((R.length : Int) - (t : Int) + 1 ≤ (R.length : Int))) = true := by
      rw [decide_eq_true (by omega), decide_eq_true (by omega)]; rfl
    rw [c5, cond_true]
    rw [ih (_ :: R.drop t) ⟨by simp; omega, fun v hv => by
        rcases List.mem_cons.1 hv with rfl | hv
        · exact twoF_in hmod (gin _ (by omega)) (gin _ (by omega))
        · exact r2 v (List.mem_of_mem_drop hv), _, by
        rw [List.length_cons, List.length_drop]
        have e : ((R.length - t + 1 : Nat) : Int) = (R.length : Int) + (1 - takes x.op) := by omega
        rw [e]; exact r3⟩]
    congr 2
    congr 1
    rw [tk] at ht1
    split at ht1
    · rename_i c7; obtain rfl : t = 1 := by omega
      rw [if_pos c7, c7]; rfl
    · rename_i c7; obtain rfl : t = 2 := by omega
      rw [if_neg c7]
end Go.Proofs.Ytmnnkeejgkhgpaa
end

section
namespace Go.Proofs.Ytmnnkeejgkhgpaa
set_option linter.unusedVariables false
set_option linter.unusedSimpArgs false

def belowB (mod : Int) (l : List Int) : Bool := l.all fun v => decide (0 ≤ v ∧ v < mod)
theorem below_L1 (n : Nat) (mod : Int) (l : List Int) (hl : l.length < 1000000) {k : Nat} (hk : l.length < k) : code_below_L1 n mod l k 0 = bif belowB mod l then some (.out ()) else some (.ret false) := by
  refine all_list l (fun k i => code_below_L1 n mod l k (i : Int)) _ (fun k => ?_) (fun k i x hi hx => ?_) hk
  · rw [code_below_L1, bif_not (by omega)]
  · rw [code_below_L1, bif_decide (by omega), idx_some hx, Option.bind_some, two_ne, wrap_one i (by omega)]
theorem below_m (n : Nat) (mod : Int) (ls : List (List Int)) (h : ls.length < 1000000) (hl : ∀ l ∈ ls, l.length < 1000000) (hn : ls.length + 2 < n) (hn2 : ∀ l ∈ ls, l.length + 2 < n) : m_code_below n mod ls = some (ls.all (belowB mod)) := by
  obtain ⟨n, rfl⟩ : ∃ j, n = j + 1 := ⟨n - 1, by omega⟩
  have : code_below_L0 n mod ls n 0 = bif ls.all (belowB mod) then some (.out ()) else some (.ret false) := by
    refine all_list ls (fun k i => code_below_L0 n mod ls k (i : Int)) _ (fun k => ?_) (fun k i x hi hx => ?_) (by omega)
    · rw [code_below_L0, bif_not (by omega)]
    · have hm := List.mem_of_getElem? hx
      have := hn2 x hm
      rw [code_below_L0, bif_decide (by omega), idx_some hx, Option.bind_some, below_L1 n mod x (hl x hm) (by omega), wrap_one i (by omega)]
      cases belowB mod x <;> rfl
  rw [m_code_below, this]
  cases ls.all (belowB mod) <;> rfl
theorem lens_L (n : Nat) (all : List (List Int)) (hl : all.length < 1000000) {k : Nat} (hk : all.length < k) : code_Value_L0 n all k 0 [] = some (.out (lensOf all)) := by
  refine map_list all _ (fun k i s => code_Value_L0 n all k (i : Int) s) (fun k s => ?_) (fun k i x s hi hx hs => ?_) hk
  · rw [code_Value_L0, bif_not (by omega)]
  · rw [code_Value_L0, bif_decide (by omega), idx_some hx, Option.bind_some, bif_decide (by omega), wrap_one i (by omega)]
theorem run_len (mod : Int) (own : List Int) (all : List (List Int)) (mem : List Int) : ∀ (l : List OpS) (R : List Int) (m : Int), R.length + l.length < 1000000 → (liesF l ((R.length : Int), m)).1 ≠ -1 → ((runF mod own all mem l R).length : Int) = (liesF l ((R.length : Int), m)).1 := by
  intro l
  induction l with
  | nil => intro R m _ _; rfl
  | cons x l ih =>
    intro R m hb h
    rw [List.length_cons] at hb
    rw [liesF] at h ⊢
    by_cases c : (R.length : Int) < takes x.op
    · rw [if_pos c] at h; exact absurd rfl h
    · rw [if_neg c] at h ⊢
      rw [runF]
      dsimp only at h ⊢
      have key : ∀ R' : List Int, (R'.length : Int) = (R.length : Int) + (1 - takes x.op) → 0 ≤ takes x.op → ((runF mod own all mem l R').length : Int) = (liesF l ((R.length : Int) + (1 - takes x.op), if m < (R.length : Int) + (1 - takes x.op) then (R.length : Int) + (1 - takes x.op) else m)).1 := by
        intro R' e h0
        rw [← e] at h ⊢
        exact ih R' _ (by omega) h
      have bad : x.op < 1 ∨ 15 ≤ x.op → False := by
        intro g
        have : takes x.op = 1000000 := by unfold takes; repeat' split
                                          all_goals omega
        omega
      rcases op_cases x.op with g | g | g | g | g | g | g | g | g | g | g | g | g | g | g | g
      · exact (bad (.inl g)).elim
      · exact (bad (.inr g)).elim
      all_goals refine key _ ?_ (by rw [g]; decide)
      all_goals rw [g] at c ⊢; simp only [takes] at c ⊢; simp at c ⊢; try omega
theorem run_in {mod : Int} {own : List Int} {all : List (List Int)} {mem : List Int} (G : Good mod own all mem) : ∀ (l : List OpS) (R : List Int), (∀ x ∈ l, opOk (lensOf all) own.length mem.length x = true) → (∀ v ∈ R, inR mod v) → ∀ v ∈ runF mod own all mem l R, inR mod v := by
  intro l
  have hm := G.h
  have z : inR mod 0 := ⟨by omega, by omega⟩
  have gd : ∀ (R : List Int), (∀ v ∈ R, inR mod v) → ∀ j, inR mod (R.getD j 0) := by
    intro R hR j
    rw [List.getD_eq_getElem?_getD]
    cases h : R[j]? with
    | none => exact z
    | some v => exact hR v (List.mem_of_getElem? h)
  induction l with
  | nil => intro R _ h; exact h
  | cons x l ih =>
    intro R hx hR
    rw [runF]
    refine ih _ (fun y hy => hx y (List.mem_cons_of_mem _ hy)) ?_
    have ho := hx x (List.mem_cons_self ..)
    have two : ∀ {v : Int} {R' : List Int}, inR mod v → (∀ w ∈ R', inR mod w) → ∀ w ∈ v :: R', inR mod w := by
      intro v R' a b w hw
      rcases List.mem_cons.1 hw with rfl | hw
      · exact a
      · exact b w hw
    unfold opOk at ho
    split
    · rename_i c; rw [if_pos c, decide_eq_true_eq] at ho; exact two (tmod_in hm.1 ho.1) hR
    split
    · exact two (gd _ G.own _) hR
    split
    · exact two (gd _ G.mem _) hR
    split
    · refine two (gd _ ?_ _) hR
      rw [List.getD_eq_getElem?_getD]
      cases h : all[x.t.toNat]? with
      | none => intro v hv; cases hv
      | some r => exact G.all r (List.mem_of_getElem? h)
    split
    · exact two (twoF_in hm z (gd R hR 0)) (fun w hw => hR w (List.mem_of_mem_drop hw))
    · exact two (twoF_in hm (gd R hR 1) (gd R hR 0)) (fun w hw => hR w (List.mem_of_mem_drop hw))
/-- Code's value. -/
def valOk (l : List OpS) (mod : Int) (own : List Int) (all : List (List Int)) (mem : List Int) : Bool :=
  decide (2 ≤ mod ∧ mod ≤ 16) && (belowB mod own && (belowB mod mem && (all.all (belowB mod) && codeOk l (lensOf all) own.length mem.length)))
def valS (l : List OpS) (mod : Int) (own : List Int) (all : List (List Int)) (mem : List Int) : Int × Bool :=
  bif valOk l mod own all mem then ((runF mod own all mem l []).getD 0 0, true) else (0, false)
theorem good_of {l : List OpS} {mod : Int} {own : List Int} {all : List (List Int)} {mem : List Int} (h : valOk l mod own all mem = true) :
    Good mod own all mem ∧ (∀ x ∈ l, opOk (lensOf all) own.length mem.length x = true) ∧ (liesF l (0, 0)).1 = 1 := by
  simp only [valOk, codeOk, belowB, Bool.and_eq_true, decide_eq_true_eq, List.all_eq_true] at h
  obtain ⟨h1, h2, h3, h4, h5, h6⟩ := h
  exact ⟨⟨h1, h2, h4, h3⟩, h5, h6⟩
theorem run_one {l : List OpS} {mod : Int} {own : List Int} {all : List (List Int)} {mem : List Int} (h : valOk l mod own all mem = true) (hl : l.length < 1000000) :
    ∃ v, runF mod own all mem l [] = [v] ∧ inR mod v := by
  obtain ⟨G, h1, h2⟩ := good_of h
  have e := run_len mod own all mem l [] 0 (by simp; omega) (by show (liesF l (0, 0)).1 ≠ -1; rw [h2]; decide)
  have e2 : ((runF mod own all mem l []).length : Int) = 1 := e.trans h2
  have hin := run_in G l [] h1 (by intro v hv; cases hv)
  match hr : runF mod own all mem l [] with
  | [] => rw [hr] at e2; simp at e2
  | [v] => exact ⟨v, rfl, hin v (by rw [hr]; exact List.mem_cons_self ..)⟩
  | a :: b :: c => rw [hr] at e2; simp at e2; omega
theorem value_m (n : Nat) (l : List OpS) (mod : Int) (own : List Int) (all : List (List Int)) (mem : List Int) (hl : l.length < 10000) (ho : own.length < 10000) (ha : all.length < 10000) (hm : mem.length < 10000) (hr : ∀ r ∈ all, r.length < 10000)
    (hn : l.length + 10 < n) (n1 : own.length + 10 < n) (n2 : all.length + 10 < n) (n3 : mem.length + 10 < n) (n4 : ∀ r ∈ all, r.length + 10 < n) (n5 : 10 < n) : m_code_Value n l mod own all mem = some (valS l mod own all mem) := by
  obtain ⟨n, rfl⟩ : ∃ j, n = j + 3 := ⟨n - 3, by omega⟩
  rw [m_code_Value]
  unfold valS
  by_cases c1 : mod < 2
  · have : valOk l mod own all mem = false := by rw [valOk, decide_eq_false (by omega)]; rfl
    rw [bif_decide c1, this]; rfl
  by_cases c2 : 16 < mod
  · have : valOk l mod own all mem = false := by rw [valOk, decide_eq_false (by omega)]; rfl
    rw [bif_not c1, bif_decide c2, this]; rfl
  have b1 := below_m (n + 2) mod [own, mem] (by simp) (by simp; omega) (by simp; omega) (by simp; omega)
  have b2 := below_m (n + 2) mod all (by omega) (fun r h => by have := hr r h; omega) (by omega) (fun r h => by have := n4 r h; omega)
  have b3 := lens_L (n + 2) all (by omega) (k := n + 2) (by omega)
  have b4 := cright_code (n + 2) l (lensOf all) own.length mem.length (by omega) (by omega)
  rw [bif_not c1, bif_not c2, b1, b2, b3]
  simp only [Option.bind_some, b4]
  have e : valOk l mod own all mem = ([own, mem].all (belowB mod) && (all.all (belowB mod) && codeOk l (lensOf all) own.length mem.length)) := by
    rw [valOk, decide_eq_true (by omega), Bool.true_and, List.all_cons, List.all_cons, List.all_nil, Bool.and_true, Bool.and_assoc]
  cases g1 : [own, mem].all (belowB mod) with
  | false => rw [e, g1]; rfl
  | true =>
  cases g2 : all.all (belowB mod) with
  | false => rw [e, g1, g2]; rfl
  | true =>
  cases g3 : codeOk l (lensOf all) own.length mem.length with
  | false => rw [e, g1, g2, g3]; rfl
  | true =>
    have ok : valOk l mod own all mem = true := by rw [e, g1, g2, g3]; rfl
    obtain ⟨G, h1, h2⟩ := good_of ok
    obtain ⟨v, hv, _⟩ := run_one ok (by omega)
    have hL := valF_L n l G (by omega) h1 (by rw [h2]; decide) (k := n + 2) (by omega)
    rw [ok, hL, hv]
    rfl
end Go.Proofs.Ytmnnkeejgkhgpaa
end

section
namespace Go.Proofs.Ytmnnkeejgkhgpaa
set_option linter.unusedVariables false
set_option linter.unusedSimpArgs false

theorem rlies_L (n : Nat) (l : List OpS) (hl : l.length < 1000000) {k : Nat} (hk : l.length < k) : (ref06_lies_L0 n l k 0 0 0).map out2 = some (liesF l (0, 0)) := by
  refine loop_list0 l (fun k i s => (ref06_lies_L0 n l k s.1 s.2 (i : Int)).map out2) (fun l s => some (liesF l s)) (fun i s => 0 ≤ s.1 ∧ s.1 ≤ i ∧ 0 ≤ s.2 ∧ s.2 ≤ i) (s := (0, 0)) hk (by simp) ?_ ?_
  · intro k s hs
    rw [ref06_lies_L0, bif_not (by omega)]; rfl
  · rintro k i ⟨a, b⟩ x hi hx ⟨h1, h2, h3, h4⟩ ih
    dsimp only at h1 h2 h3 h4 ⊢
    have hlt : (i : Int) < (l.length : Int) := by omega
    rw [ref06_lies_L0, bif_decide hlt, idx_some hx, wrap_one i (by omega), wrap64 (n := a + 1) (by omega), wrap64 (n := a - 1) (by omega)]
    simp only [Option.bind_some, liesF]
    have go : ∀ d : Int, (d = 0 ∨ d = 1 ∨ d = -1) → 0 ≤ a + d → (ref06_lies_L0 n l k (a + d) (if b < a + d then a + d else b) ((i + 1 : Nat) : Int)).map out2 = some (liesF (l.drop (i + 1)) (a + d, if b < a + d then a + d else b)) := by
      intro d hd h0
      have hm : 0 ≤ (if b < a + d then a + d else b) ∧ (if b < a + d then a + d else b) ≤ ((i + 1 : Nat) : Int) := by split <;> omega
      exact ih (_, _) ⟨h0, by dsimp only; omega, hm.1, hm.2⟩
    by_cases c1 : 1 ≤ x.op ∧ x.op ≤ 4
    · have ht : takes x.op = 0 := by unfold takes; rw [if_pos c1]
      rw [bif_decide c1.1, bif_decide c1.2, ht, if_neg (show ¬ a < 0 by omega)]
      exact go 1 (by omega) (by omega)
    by_cases c5 : x.op = 5
    · rw [c5]
      have ht : takes 5 = 1 := rfl
      simp only [ht, show ¬ (5 : Int) ≤ 4 by omega, show (1 : Int) ≤ 5 by omega, show ¬ (6 : Int) ≤ 5 by omega, decide_true, decide_false, cond_true, cond_false, beq_self_eq_true]
      by_cases c : 1 ≤ a
      · rw [bif_decide c, if_neg (show ¬ a < 1 by omega)]
        have := go 0 (by omega) (by omega)
        rw [Int.add_zero] at this
        simpa using this
      · rw [bif_not c, if_pos (show a < 1 by omega)]; rfl
    by_cases c6 : 6 ≤ x.op ∧ x.op ≤ 14
    · have ht : takes x.op = 2 := by unfold takes; rw [if_neg c1, if_neg c5, if_pos c6]
      simp only [bif_decide (show 1 ≤ x.op by omega), bif_not (show ¬ x.op ≤ 4 by omega), beq_eq_false_iff_ne.2 c5, cond_false, bif_decide c6.1, bif_decide c6.2, ht]
      by_cases c : 2 ≤ a
      · rw [bif_decide c, if_neg (show ¬ a < 2 by omega)]
        exact go (-1) (by omega) (by omega)
      · rw [bif_not c, if_pos (show a < 2 by omega)]; rfl
    · have ht : takes x.op = 1000000 := by unfold takes; rw [if_neg c1, if_neg c5, if_neg c6]
      rw [ht, if_pos (show a < 1000000 by omega), beq_eq_false_iff_ne.2 c5]
      simp only [cond_false]
      by_cases g : x.op < 1
      · simp only [bif_not (show ¬ 1 ≤ x.op by omega), bif_not (show ¬ 6 ≤ x.op by omega)]; rfl
      · simp only [bif_decide (show 1 ≤ x.op by omega), bif_not (show ¬ x.op ≤ 4 by omega), bif_decide (show 6 ≤ x.op by omega), bif_not (show ¬ x.op ≤ 14 by omega)]; rfl
theorem rlies_m (n : Nat) (l : List OpS) (hl : l.length < 1000000) (hn : l.length + 2 < n) : m_ref06_lies n l = some (liesF l (0, 0)) := by
  obtain ⟨n, rfl⟩ : ∃ j, n = j + 1 := ⟨n - 1, by omega⟩
  have := rlies_L n l hl (k := n) (by omega)
  obtain ⟨r, h1, h2⟩ := Option.map_eq_some_iff.1 this
  rw [m_ref06_lies, h1]
  cases r with
  | out x => obtain ⟨a, b⟩ := x; exact congrArg some h2
  | ret x => exact congrArg some h2
theorem rdepth_m (n : Nat) (l : List OpS) (hl : l.length < 1000000) (hn : l.length + 3 < n) : m_ref06_Depth n l = some (liesF l (0, 0)).2 := by
  obtain ⟨n, rfl⟩ : ∃ j, n = j + 1 := ⟨n - 1, by omega⟩
  rw [m_ref06_Depth, rlies_m n l hl (by omega)]; rfl
theorem rin_m (n : Nat) (a b : Int) : m_ref06_in (n + 1) a b = some (decide (0 ≤ a ∧ a < b)) := by
  rw [m_ref06_in]
  by_cases h : 0 ≤ a <;> simp [h]
theorem rright_m (n : Nat) (l : List OpS) (regs : List Int) (own locs : Int) (hl : l.length < 1000000) (hn : l.length + 4 < n) : m_ref06_Right n l regs own locs = some (codeOk l regs own locs) := by
  obtain ⟨n, rfl⟩ : ∃ j, n = j + 2 := ⟨n - 2, by omega⟩
  have hL : ref06_Right_L0 (n + 1) l regs own locs (n + 1) 0 = bif l.all (opOk regs own locs) then some (.out ()) else some (.ret false) := by
    refine all_list l (fun k i => ref06_Right_L0 (n + 1) l regs own locs k (i : Int)) _ (fun k => ?_) (fun k i x hi hx => ?_) (by omega)
    · rw [ref06_Right_L0, bif_not (by omega)]
    · rw [ref06_Right_L0, bif_decide (by omega), idx_some hx, wrap_one i (by omega)]
      simp only [Option.bind_some, rin_m]
      generalize ref06_Right_L0 (n + 1) l regs own locs k ((i + 1 : Nat) : Int) = r
      unfold opOk
      by_cases c1 : x.op = 1
      · rw [if_pos c1, c1]; rfl
      by_cases c2 : x.op = 2
      · rw [if_neg c1, if_pos c2, c2]; rfl
      by_cases c3 : x.op = 3
      · rw [if_neg c1, if_neg c2, if_pos c3, c3]; rfl
      rw [if_neg c1, if_neg c2, if_neg c3, beq_eq_false_iff_ne.2 c1, beq_eq_false_iff_ne.2 c2, beq_eq_false_iff_ne.2 c3]
      by_cases c4 : x.op = 4
      · rw [if_pos c4, c4]
        by_cases g0 : 0 ≤ x.t
        · rw [if_pos g0]
          by_cases g1 : x.t < (regs.length : Int)
          · rw [idx_of g0, List.getElem?_eq_getElem (by omega), decide_eq_true (show 0 ≤ x.t ∧ x.t < (regs.length : Int) from ⟨g0, g1⟩)]
            rfl
          · rw [List.getElem?_eq_none (by omega), decide_eq_false (show ¬ (0 ≤ x.t ∧ x.t < (regs.length : Int)) by omega)]; rfl
        · rw [if_neg g0, decide_eq_false (show ¬ (0 ≤ x.t ∧ x.t < (regs.length : Int)) by omega)]; rfl
      · rw [if_neg c4, beq_eq_false_iff_ne.2 c4]; rfl
  rw [m_ref06_Right, hL, codeOk]
  cases l.all (opOk regs own locs) with
  | false => rfl
  | true =>
    simp only [cond_true, Option.bind_some, rlies_m (n + 1) l hl (by omega), Bool.true_and]
    rfl
theorem rall_m (n : Nat) (mod : Int) (l : List Int) (hl : l.length < 1000000) (hn : l.length + 2 < n) : m_ref06_All n l mod = some (belowB mod l) := by
  obtain ⟨n, rfl⟩ : ∃ j, n = j + 2 := ⟨n - 2, by omega⟩
  have hL : ref06_All_L0 (n + 1) l mod (n + 1) 0 = bif belowB mod l then some (.out ()) else some (.ret false) := by
    refine all_list l (fun k i => ref06_All_L0 (n + 1) l mod k (i : Int)) _ (fun k => ?_) (fun k i x hi hx => ?_) (by omega)
    · rw [ref06_All_L0, bif_not (by omega)]
    · rw [ref06_All_L0, bif_decide (by omega), idx_some hx, Option.bind_some, rin_m, wrap_one i (by omega)]; rfl
  rw [m_ref06_All, hL]
  cases belowB mod l <;> rfl
theorem rlens_L (n : Nat) (mod : Int) (all : List (List Int)) (hl : all.length < 1000000) (h2 : ∀ r ∈ all, r.length < 1000000) (h3 : ∀ r ∈ all, r.length + 2 < n) {k : Nat} (hk : all.length < k) :
    ref06_Value_L0 n mod all k 0 [] = bif all.all (belowB mod) then some (.out (lensOf all)) else some (.ret (0, false)) := by
  have := loop_list0 all (fun k i s => ref06_Value_L0 n mod all k (i : Int) s) (fun l s => bif l.all (belowB mod) then some (.out (s ++ lensOf l)) else some (.ret (0, false))) (fun i s => s.length = i) (s := []) hk rfl (fun k s _ => ?_) ?_
  · exact this
  · show ref06_Value_L0 n mod all (k + 1) _ s = _
    rw [ref06_Value_L0, bif_not (by omega)]; simp [lensOf]
  · intro k i s x hi hx hs ih
    have hm := List.mem_of_getElem? hx
    rw [ref06_Value_L0, bif_decide (by omega), idx_some hx, Option.bind_some, rall_m n mod x (h2 x hm) (h3 x hm), Option.bind_some, Option.bind_some, bif_decide (by omega), wrap_one i (by omega), ih _ (by simp [hs]), List.all_cons]
    cases belowB mod x with
    | false => rfl
    | true => simp [lensOf]
theorem rtruth_m (n : Nat) (c : Bool) : m_ref06_truth (n + 1) c = some (b2i c) := by cases c <;> rfl
theorem rtwo_m (n : Nat) {op a b mod : Int} (h : 2 ≤ mod ∧ mod ≤ 16) (ha : inR mod a) (hb : inR mod b) (ho : 6 ≤ op ∧ op ≤ 14) : m_ref06_two (n + 2) op a b mod = some (twoF op a b mod) := by
  have hm := mul_in h ha hb
  obtain ⟨a0, a1⟩ := ha; obtain ⟨b0, b1⟩ := hb
  have w1 : IntKind.i64.wrap (a + b) = a + b := wrap64 (by omega)
  have w2 : IntKind.i64.wrap (a * b) = a * b := wrap64 (by omega)
  have w3 : IntKind.i64.wrap (a - b) = a - b := wrap64 (by omega)
  have w4 : IntKind.i64.wrap (a - b + mod) = a + mod - b := by rw [wrap64 (by omega)]; omega
  have w5 : ¬ mod = 0 := by omega
  rcases op_cases op with h | h | h | h | h | h | h | h | h | h | h | h | h | h | h | h
  all_goals try omega
  all_goals subst h; rw [m_ref06_two]
  · simp only [bif_not w5, w1]; rfl
  · simp only [bif_not w5, w3, w4]; rfl
  · simp only [bif_not w5, w2]; rfl
  · simp only [rtruth_m]; rfl
  · simp only [rtruth_m]; rfl
  · simp only [rtruth_m]; rfl
  · simp only [rtruth_m]; rfl
  · simp only [rtruth_m]
    show (bif a != 0 then _ else _) = some (b2i (a * b != 0))
    by_cases ca : a = 0
    · subst ca; simp
    · have e : (a * b != 0) = (b != 0) := by
        by_cases cb : b = 0
        · subst cb; simp
        · have : ¬ a * b = 0 := fun h => (Int.mul_eq_zero.1 h).elim ca cb
          rw [bne_iff_ne.2 this, bne_iff_ne.2 cb]
      have : (a != 0) = true := by simpa using ca
      rw [this, e]; rfl
  · simp only [rtruth_m]
    show (bif a != 0 then _ else _) = some (b2i (a + b != 0))
    by_cases ca : a = 0
    · subst ca; simp
    · have : (a != 0) = true := by simpa using ca
      have e : (a + b != 0) = true := by simp; omega
      rw [this, e]; rfl
theorem rval_L (n : Nat) (l : List OpS) {mod : Int} {own : List Int} {all : List (List Int)} {mem : List Int} (G : Good mod own all mem) (hl : l.length < 1000000) (hok : ∀ x ∈ l, opOk (lensOf all) own.length mem.length x = true) (hr : (liesF l (0, 0)).1 ≠ -1) {k : Nat} (hk : l.length < k) :
    ref06_Value_L1 (n + 2) l mod own all mem k 0 [] = some (.out (runF mod own all mem l []).reverse) := by
  refine loop_list0 l (fun k i R => ref06_Value_L1 (n + 2) l mod own all mem k (i : Int) R.reverse) (fun l R => some (.out (runF mod own all mem l R).reverse))
    (fun i R => R.length ≤ i ∧ (∀ v ∈ R, inR mod v) ∧ ∃ m, (liesF (l.drop i) ((R.length : Int), m)).1 ≠ -1) (s := []) hk ⟨Nat.le_refl _, by simp, 0, hr⟩ ?_ ?_
  · intro k s hs
    rw [ref06_Value_L1, bif_not (by omega)]; rfl
  · rintro k i R x hi hx ⟨r1, r2, m, r3⟩ ih
    have hlt : (i : Int) < (l.length : Int) := by omega
    have hd : l.drop i = x :: l.drop (i + 1) := by rw [List.drop_eq_getElem_cons hi]; rw [List.getElem?_eq_getElem hi] at hx; rw [Option.some.inj hx]
    have hmem : x ∈ l := List.mem_of_getElem? hx
    have ho := hok x hmem
    have hmod := G.h
    rw [hd, liesF] at r3
    have ht : ¬ ((R.length : Int) < takes x.op) := by
      intro c; rw [if_pos c] at r3; exact r3 rfl
    rw [if_neg ht] at r3
    rw [ref06_Value_L1, bif_decide hlt, idx_some hx, wrap_one i (by omega)]
    have c0 : ¬ mod = 0 := by omega
    simp only [Option.bind_some, runF, List.length_reverse, bif_not c0, bif_decide (show (R.length + 1) * 9 ≤ 140737488355328 by omega)]
    have push : ∀ v, inR mod v → takes x.op = 0 → ref06_Value_L1 (n + 2) l mod own all mem k ((i + 1 : Nat) : Int) (R.reverse ++ [v]) = some (.out (runF mod own all mem (l.drop (i + 1)) (v :: R)).reverse) := by
      intro v hv h0
      have := ih (v :: R) ⟨by simp; omega, by simpa using ⟨hv, r2⟩, _, by
        rw [List.length_cons]
        rw [h0] at r3
        have e : ((R.length + 1 : Nat) : Int) = (R.length : Int) + (1 - 0) := by omega
        rw [e]; exact r3⟩
      rw [← this, List.reverse_cons]
    unfold opOk at ho
    by_cases c1 : x.op = 1
    · rw [if_pos c1, decide_eq_true_eq] at ho
      simp only [c1, if_true, beq_self_eq_true, cond_true]
      exact push _ (tmod_in hmod.1 ho.1) (by rw [c1]; rfl)
    by_cases c2 : x.op = 2
    · rw [if_neg c1, if_pos c2, decide_eq_true_eq] at ho
      simp only [c1, c2, if_true, if_false, beq_self_eq_true, cond_true, cond_false, beq_eq_false_iff_ne.2 c1, show ((2 : Int) == 1) = false from rfl, show ¬ (2 : Int) = 1 by omega]
      obtain ⟨e1, e2⟩ := get_in G.own ho
      rw [e1]
      exact push _ e2 (by rw [c2]; rfl)
    by_cases c3 : x.op = 3
    · rw [if_neg c1, if_neg c2, if_pos c3, decide_eq_true_eq] at ho
      simp only [c3, if_true, if_false, beq_self_eq_true, cond_true, cond_false, show ((3 : Int) == 1) = false from rfl, show ((3 : Int) == 2) = false from rfl, show ¬ (3 : Int) = 1 by omega, show ¬ (3 : Int) = 2 by omega]
      obtain ⟨e1, e2⟩ := get_in G.mem ho
      rw [e1]
      exact push _ e2 (by rw [c3]; rfl)
    rw [if_neg c1, if_neg c2, if_neg c3] at ho
    rw [beq_eq_false_iff_ne.2 c1, beq_eq_false_iff_ne.2 c2, beq_eq_false_iff_ne.2 c3, if_neg c1, if_neg c2, if_neg c3]
    by_cases c4 : x.op = 4
    · rw [if_pos c4] at ho
      rw [c4, if_pos rfl]
      split at ho
      · rename_i g0
        split at ho
        · rename_i r hr
          rw [lensOf, List.getElem?_map] at hr
          obtain ⟨u, hu, rfl⟩ := Option.map_eq_some_iff.1 hr
          rw [decide_eq_true_eq] at ho
          have hu' : idx all x.t = some u := by rw [idx_of g0, hu]
          obtain ⟨e1, e2⟩ := get_in (G.all u (List.mem_of_getElem? hu)) ho
          have e3 : all.getD x.t.toNat [] = u := by rw [List.getD_eq_getElem?_getD, hu]; rfl
          simp only [cond_false, beq_self_eq_true, cond_true, hu', Option.bind_some, e1, e3]
          exact push _ e2 (by rw [c4]; rfl)
        · cases ho
      · cases ho
    rw [if_neg c4, beq_eq_false_iff_ne.2 c4]
    have h5 : 5 ≤ x.op ∧ x.op ≤ 14 := by unfold takes at ht; repeat' split at ht
                                         all_goals omega
    have tk : takes x.op = if x.op = 5 then 1 else 2 := by unfold takes; rw [if_neg (by omega)]; split
                                                           · rfl
                                                           · rw [if_pos (by omega)]
    obtain ⟨t, ht1, ht2, ht3⟩ : ∃ t : Nat, takes x.op = t ∧ 1 ≤ t ∧ t ≤ R.length := ⟨(takes x.op).toNat, by rw [tk]; split <;> rfl, by rw [tk]; split <;> decide, by rw [tk] at ht ⊢; split at ht <;> split <;> omega⟩
    have gin : ∀ j, j < R.length → inR mod (R.getD j 0) := fun j hj => by
      rw [List.getD_eq_getElem?_getD, List.getElem?_eq_getElem hj]; exact r2 _ (List.getElem_mem hj)
    have p2 : idx R.reverse ((R.length : Int) - 1) = some (R.getD 0 0) := by
      rw [show (R.length : Int) - 1 = ((R.length - 1 - 0 : Nat) : Int) by omega, idx_nat, rev_get (by omega)]
    have fin : ∀ v, inR mod v → ref06_Value_L1 (n + 2) l mod own all mem k ((i + 1 : Nat) : Int) (v :: R.drop t).reverse = some (.out (runF mod own all mem (l.drop (i + 1)) (v :: R.drop t)).reverse) := by
      intro v hv
      refine ih (v :: R.drop t) ⟨by simp; omega, fun w hw => by
        rcases List.mem_cons.1 hw with rfl | hw
        · exact hv
        · exact r2 w (List.mem_of_mem_drop hw), _, by
        rw [List.length_cons, List.length_drop]
        have e : ((R.length - t + 1 : Nat) : Int) = (R.length : Int) + (1 - takes x.op) := by omega
        rw [e]; exact r3⟩
    rw [tk] at ht1
    rw [wrap64 (n := (R.length : Int) - 1) (by omega), wrap64 (n := (R.length : Int) - 2) (by omega), p2]
    by_cases c5 : x.op = 5
    · rw [if_pos c5] at ht1 ⊢
      obtain rfl : t = 1 := by omega
      rw [c5]
      simp only [cond_false, cond_true, beq_self_eq_true, Option.bind_some, rtruth_m]
      have e := rev_cut (R := R) (twoF 5 0 (R.getD 0 0) mod) ⟨ht2, ht3⟩
      rw [List.take_of_length_le (by rw [List.length_set, List.length_reverse]; omega)] at e
      rw [show ((R.length : Int) - 1).toNat = R.length - 1 by omega]
      have e2 : b2i (R.getD 0 0 == 0) = twoF 5 0 (R.getD 0 0) mod := rfl
      rw [e2, e]
      exact fin _ (twoF_in hmod ⟨by omega, by omega⟩ (gin 0 (by omega)))
    · rw [if_neg c5] at ht1 ⊢
      obtain rfl : t = 2 := by omega
      have p1 : idx R.reverse ((R.length : Int) - 2) = some (R.getD 1 0) := by
        rw [show (R.length : Int) - 2 = ((R.length - 1 - 1 : Nat) : Int) by omega, idx_nat, rev_get (by omega)]
      rw [p1, beq_eq_false_iff_ne.2 c5]
      simp only [cond_false, Option.bind_some, rtwo_m n hmod (gin 1 (by omega)) (gin 0 (by omega)) (show 6 ≤ x.op ∧ x.op ≤ 14 by omega), List.length_set, List.length_reverse]
      have cc : (decide (0 ≤ (R.length : Int) - 1) && decide ((R.length : Int) - 1 ≤ (R.length : Int))) = true := by
        rw [decide_eq_true (by omega), decide_eq_true (by omega)]; rfl
      rw [cc, cond_true, show ((R.length : Int) - 1).toNat = R.length - 2 + 1 by omega, show ((R.length : Int) - 2).toNat = R.length - 2 by omega, rev_cut _ ⟨ht2, ht3⟩]
      exact fin _ (twoF_in hmod (gin 1 (by omega)) (gin 0 (by omega)))
theorem rvalue_m (n : Nat) (l : List OpS) (mod : Int) (own : List Int) (all : List (List Int)) (mem : List Int) (hl : l.length < 10000) (ho : own.length < 10000) (ha : all.length < 10000) (hm : mem.length < 10000) (hr : ∀ r ∈ all, r.length < 10000)
    (hn : l.length + 10 < n) (n1 : own.length + 10 < n) (n2 : all.length + 10 < n) (n3 : mem.length + 10 < n) (n4 : ∀ r ∈ all, r.length + 10 < n) (n5 : 10 < n) : m_ref06_Value n l mod own all mem = some (valS l mod own all mem) := by
  obtain ⟨n, rfl⟩ : ∃ j, n = j + 3 := ⟨n - 3, by omega⟩
  rw [m_ref06_Value]
  unfold valS
  by_cases c1 : mod < 2
  · have : valOk l mod own all mem = false := by rw [valOk, decide_eq_false (by omega)]; rfl
    rw [bif_decide c1, this]; rfl
  by_cases c2 : 16 < mod
  · have : valOk l mod own all mem = false := by rw [valOk, decide_eq_false (by omega)]; rfl
    rw [bif_not c1, bif_decide c2, this]; rfl
  have b3 := rlens_L (n + 2) mod all (by omega) (fun r h => by have := hr r h; omega) (fun r h => by have := n4 r h; omega) (k := n + 2) (by omega)
  have b4 := rright_m (n + 2) l (lensOf all) own.length mem.length (by omega) (by omega)
  rw [bif_not c1, bif_not c2, rall_m _ _ own (by omega) (by omega), rall_m _ _ mem (by omega) (by omega), b3]
  have e : valOk l mod own all mem = (belowB mod own && (belowB mod mem && (all.all (belowB mod) && codeOk l (lensOf all) own.length mem.length))) := by
    rw [valOk, decide_eq_true (by omega), Bool.true_and]
  simp only [Option.bind_some]
  cases g1 : belowB mod own with
  | false => rw [e, g1]; rfl
  | true =>
  cases g0 : belowB mod mem with
  | false => rw [e, g1, g0]; rfl
  | true =>
  cases g2 : all.all (belowB mod) with
  | false => rw [e, g1, g0, g2]; rfl
  | true =>
  simp only [cond_true, Option.bind_some, b4]
  cases g3 : codeOk l (lensOf all) own.length mem.length with
  | false => rw [e, g1, g0, g2, g3]; rfl
  | true =>
    have ok : valOk l mod own all mem = true := by rw [e, g1, g0, g2, g3]; rfl
    obtain ⟨G, h1, h2⟩ := good_of ok
    obtain ⟨v, hv, _⟩ := run_one ok (by omega)
    have hL := rval_L n l G (by omega) h1 (by rw [h2]; decide) (k := n + 2) (by omega)
    rw [ok, hL, hv]
    rfl
theorem llens_m (n : Nat) (s : S_law06_State) (h : s.f_All.length ≤ 8) (hn : 20 < n) : m_law06_lengths n s = some (lensOf s.f_All) := by
  obtain ⟨n, rfl⟩ : ∃ j, n = j + 1 := ⟨n - 1, by omega⟩
  have : law06_lengths_L0 n s n 0 [] = some (.out (lensOf s.f_All)) := by
    refine map_list s.f_All _ (fun k i r => law06_lengths_L0 n s k (i : Int) r) (fun k r => ?_) (fun k i x r hi hx hr => ?_) (by omega)
    · rw [law06_lengths_L0, bif_not (by omega)]
    · rw [law06_lengths_L0, bif_decide (by omega), idx_some hx, Option.bind_some, bif_decide (by omega), wrap_one i (by omega)]
  rw [m_law06_lengths, this]; rfl
def lightS (s : S_law06_State) : Bool := decide (s.f_Own.length ≤ 20 ∧ s.f_All.length ≤ 8 ∧ s.f_Mem.length ≤ 20) && s.f_All.all fun l => decide (l.length ≤ 20)
theorem llight_m (n : Nat) (s : S_law06_State) (hn : 30 < n) : m_law06_light n s = some (lightS s) := by
  obtain ⟨n, rfl⟩ : ∃ j, n = j + 1 := ⟨n - 1, by omega⟩
  rw [m_law06_light, lightS]
  by_cases c1 : 20 < (s.f_Own.length : Int)
  · rw [bif_decide c1, decide_eq_false (by omega)]; rfl
  by_cases c2 : 8 < (s.f_All.length : Int)
  · rw [bif_not c1, bif_decide c2, decide_eq_false (by omega)]; rfl
  by_cases c3 : 20 < (s.f_Mem.length : Int)
  · rw [bif_not c1, bif_not c2, bif_decide c3, decide_eq_false (by omega)]; rfl
  have : law06_light_L0 n s n 0 = bif s.f_All.all (fun l => decide (l.length ≤ 20)) then some (.out ()) else some (.ret false) := by
    refine all_list s.f_All (fun k i => law06_light_L0 n s k (i : Int)) _ (fun k => ?_) (fun k i x hi hx => ?_) (by omega)
    · rw [law06_light_L0, bif_not (by omega)]
    · rw [law06_light_L0, bif_decide (by omega), idx_some hx, Option.bind_some, wrap_one i (by omega)]
      by_cases c : x.length ≤ 20
      · rw [bif_not (by omega), bif_decide c]
      · rw [bif_decide (show 20 < (x.length : Int) by omega), bif_not c]
  rw [bif_not c1, bif_not c2, bif_not c3, this, decide_eq_true (by omega)]
  cases List.all s.f_All _ <;> rfl
theorem codeValues_m (l : List OpS) (s : S_law06_State) : m_law06_CodeValues 1000 l s = some true := by
  rw [m_law06_CodeValues, known06]
  by_cases c : 400 < (l.length : Int)
  · rw [bif_decide c]; rfl
  rw [bif_not c, llight_m 999 s (by omega)]
  simp only [Option.bind_some]
  cases hs : lightS s with
  | false => rfl
  | true =>
    simp only [lightS, Bool.and_eq_true, decide_eq_true_eq, List.all_eq_true] at hs
    obtain ⟨⟨h1, h2, h3⟩, h4⟩ := hs
    have hall : ∀ r ∈ s.f_All, r.length < 10000 := fun r hr => by have := h4 r hr; omega
    have hall' : ∀ r ∈ s.f_All, r.length + 10 < 999 := fun r hr => by have := h4 r hr; omega
    have hL : law06_CodeValues_L0 999 s 999 0 = bif s.f_Own.all (fun _ => true) then some (.out ()) else some (.ret false) := by
      refine all_list s.f_Own (fun k i => law06_CodeValues_L0 999 s k (i : Int)) _ (fun k => ?_) (fun k i x hi hx => ?_) (by omega)
      · rw [law06_CodeValues_L0, List.nil_append, bif_not (by omega)]
      · rw [law06_CodeValues_L0, List.nil_append, bif_decide (by omega), idx_some hx, Option.bind_some, Option.bind_some, wrap_one i (by omega)]
        simp
    simp only [List.nil_append, cond_true]
    rw [List.length_nil, bif_decide (by omega), value_m 999 l s.f_Mod s.f_Own s.f_All s.f_Mem (by omega) (by omega) (by omega) (by omega) hall (by omega) (by omega) (by omega) (by omega) hall' (by omega),
      rvalue_m 999 l s.f_Mod s.f_Own s.f_All s.f_Mem (by omega) (by omega) (by omega) (by omega) hall (by omega) (by omega) (by omega) (by omega) hall' (by omega), hL]
    simp only [Option.bind_some, List.all_eq_true, depth_m 999 l (by omega) (by omega), rdepth_m 999 l (by omega) (by omega), llens_m 999 s h2 (by omega), cright_code 999 l _ _ _ (by omega) (by omega), rright_m 999 l _ _ _ (by omega) (by omega), beq_self_eq_true, cond_true]
    have : s.f_Own.all (fun _ => true) = true := by simp
    rw [this]; rfl
end Go.Proofs.Ytmnnkeejgkhgpaa
end

section
namespace Go.Proofs.Ytmnnkeejgkhgpaa
set_option linter.unusedVariables false
set_option linter.unusedSimpArgs false
set_option maxRecDepth 100000

set_option maxHeartbeats 4000000 in
theorem ok_code_of (n : Nat) : ∀ (v0_op : Int) (r : R_code_of), m_code_of n v0_op = some r → callN Try.prog HH XT n 37 [AV.int .i64 (v0_op)] [] = some ((match (r : R_code_of) with | .c0 y => AV.tup [AV.agg [AV.int .i64 ((y).1), AV.nilf], AV.bool ((y).2)] | .c1 y => AV.tup [AV.agg [AV.int .i64 ((y).1), AV.func 59 [] []], AV.bool ((y).2)] | .c2 y => AV.tup [AV.agg [AV.int .i64 ((y).1), AV.func 58 [] []], AV.bool ((y).2)] | .c3 y => AV.tup [AV.agg [AV.int .i64 ((y).1), AV.func 57 [] []], AV.bool ((y).2)] | .c4 y => AV.tup [AV.agg [AV.int .i64 ((y).1), AV.func 56 [] []], AV.bool ((y).2)] | .c5 y => AV.tup [AV.agg [AV.int .i64 ((y).1), AV.func 55 [] []], AV.bool ((y).2)] | .c6 y => AV.tup [AV.agg [AV.int .i64 ((y).1), AV.func 54 [] []], AV.bool ((y).2)] | .c7 y => AV.tup [AV.agg [AV.int .i64 ((y).1), AV.func 53 [] []], AV.bool ((y).2)] | .c8 y => AV.tup [AV.agg [AV.int .i64 ((y).1), AV.func 52 [] []], AV.bool ((y).2)] | .c9 y => AV.tup [AV.agg [AV.int .i64 ((y).1), AV.func 51 [] []], AV.bool ((y).2)] | .c10 y => AV.tup [AV.agg [AV.int .i64 ((y).1), AV.func 49 [] []], AV.bool ((y).2)]), (match (r : R_code_of) with | .c0 y => [] | .c1 y => [] | .c2 y => [] | .c3 y => [] | .c4 y => [] | .c5 y => [] | .c6 y => [] | .c7 y => [] | .c8 y => [] | .c9 y => [] | .c10 y => [])) := by
  cases n with
  | zero => intro v0_op r hm; exact absurd hm (by intro h; cases h)
  | succ n =>
    intro v0_op r hm
    rw [m_code_of] at hm
    refine callN_eq' Try.func37 (by rfl) rfl rfl (Nat.le_of_ble_eq_true rfl) ?_
    intro call hc
    conv => lhs; whnf
    refine bif_or2 hm ?_ ?_ <;> clear hm <;> intro hc1 hm
    · simp only [hc1, ls]
      conv => lhs; whnf
      have hq := Option.some.inj hm; clear hm; subst hq
      try simp only [ls]
      exact fq (y := some (AV.tup [AV.agg [AV.int .i64 (0), AV.nilf], AV.bool (false)], []))
    · simp only [hc1, ls]
      conv => lhs; whnf
      refine bif_or2 hm ?_ ?_ <;> clear hm <;> intro hc2 hm
      · simp only [hc2, ls]
        conv => lhs; whnf
        have hq := Option.some.inj hm; clear hm; subst hq
        try simp only [ls]
        exact fq (y := some (AV.tup [AV.agg [AV.int .i64 (0), AV.nilf], AV.bool (false)], []))
      · simp only [hc2, ls]
        conv => lhs; whnf
        refine bif_or2 hm ?_ ?_ <;> clear hm <;> intro hc3 hm
        · simp only [hc3, ls]
          conv => lhs; whnf
          have hq := Option.some.inj hm; clear hm; subst hq
          try simp only [ls]
          exact fq (y := some (AV.tup [AV.agg [AV.int .i64 (2), AV.func 59 [] []], AV.bool (true)], []))
        · simp only [hc3, ls]
          conv => lhs; whnf
          refine bif_or2 hm ?_ ?_ <;> clear hm <;> intro hc4 hm
          · simp only [hc4, ls]
            conv => lhs; whnf
            have hq := Option.some.inj hm; clear hm; subst hq
            try simp only [ls]
            exact fq (y := some (AV.tup [AV.agg [AV.int .i64 (2), AV.func 58 [] []], AV.bool (true)], []))
          · simp only [hc4, ls]
            conv => lhs; whnf
            refine bif_or2 hm ?_ ?_ <;> clear hm <;> intro hc5 hm
            · simp only [hc5, ls]
              conv => lhs; whnf
              have hq := Option.some.inj hm; clear hm; subst hq
              try simp only [ls]
              exact fq (y := some (AV.tup [AV.agg [AV.int .i64 (2), AV.func 57 [] []], AV.bool (true)], []))
            · simp only [hc5, ls]
              conv => lhs; whnf
              refine bif_or2 hm ?_ ?_ <;> clear hm <;> intro hc6 hm
              · simp only [hc6, ls]
                conv => lhs; whnf
                have hq := Option.some.inj hm; clear hm; subst hq
                try simp only [ls]
                exact fq (y := some (AV.tup [AV.agg [AV.int .i64 (2), AV.func 56 [] []], AV.bool (true)], []))
              · simp only [hc6, ls]
                conv => lhs; whnf
                refine bif_or2 hm ?_ ?_ <;> clear hm <;> intro hc7 hm
                · simp only [hc7, ls]
                  conv => lhs; whnf
                  have hq := Option.some.inj hm; clear hm; subst hq
                  try simp only [ls]
                  exact fq (y := some (AV.tup [AV.agg [AV.int .i64 (2), AV.func 55 [] []], AV.bool (true)], []))
                · simp only [hc7, ls]
                  conv => lhs; whnf
                  refine bif_or2 hm ?_ ?_ <;> clear hm <;> intro hc8 hm
                  · simp only [hc8, ls]
                    conv => lhs; whnf
                    have hq := Option.some.inj hm; clear hm; subst hq
                    try simp only [ls]
                    exact fq (y := some (AV.tup [AV.agg [AV.int .i64 (2), AV.func 54 [] []], AV.bool (true)], []))
                  · simp only [hc8, ls]
                    conv => lhs; whnf
                    refine bif_or2 hm ?_ ?_ <;> clear hm <;> intro hc9 hm
                    · simp only [hc9, ls]
                      conv => lhs; whnf
                      have hq := Option.some.inj hm; clear hm; subst hq
                      try simp only [ls]
                      exact fq (y := some (AV.tup [AV.agg [AV.int .i64 (2), AV.func 53 [] []], AV.bool (true)], []))
                    · simp only [hc9, ls]
                      conv => lhs; whnf
                      refine bif_or2 hm ?_ ?_ <;> clear hm <;> intro hc10 hm
                      · simp only [hc10, ls]
                        conv => lhs; whnf
                        have hq := Option.some.inj hm; clear hm; subst hq
                        try simp only [ls]
                        exact fq (y := some (AV.tup [AV.agg [AV.int .i64 (2), AV.func 52 [] []], AV.bool (true)], []))
                      · simp only [hc10, ls]
                        conv => lhs; whnf
                        refine bif_or2 hm ?_ ?_ <;> clear hm <;> intro hc11 hm
                        · simp only [hc11, ls]
                          conv => lhs; whnf
                          have hq := Option.some.inj hm; clear hm; subst hq
                          try simp only [ls]
                          exact fq (y := some (AV.tup [AV.agg [AV.int .i64 (2), AV.func 51 [] []], AV.bool (true)], []))
                        · simp only [hc11, ls]
                          conv => lhs; whnf
                          refine bif_or2 hm ?_ ?_ <;> clear hm <;> intro hc12 hm
                          · simp only [hc12, ls]
                            conv => lhs; whnf
                            have hq := Option.some.inj hm; clear hm; subst hq
                            try simp only [ls]
                            exact fq (y := some (AV.tup [AV.agg [AV.int .i64 (1), AV.func 49 [] []], AV.bool (true)], []))
                          · simp only [hc12, ls]
                            conv => lhs; whnf
                            refine bif_or2 hm ?_ ?_ <;> clear hm <;> intro hc13 hm
                            · simp only [hc13, ls]
                              conv => lhs; whnf
                              have hq := Option.some.inj hm; clear hm; subst hq
                              try simp only [ls]
                              exact fq (y := some (AV.tup [AV.agg [AV.int .i64 (0), AV.nilf], AV.bool (true)], []))
                            · simp only [hc13, ls]
                              conv => lhs; whnf
                              refine bif_or2 hm ?_ ?_ <;> clear hm <;> intro hc14 hm
                              · simp only [hc14, ls]
                                conv => lhs; whnf
                                have hq := Option.some.inj hm; clear hm; subst hq
                                try simp only [ls]
                                exact fq (y := some (AV.tup [AV.agg [AV.int .i64 (0), AV.nilf], AV.bool (true)], []))
                              · simp only [hc14, ls]
                                conv => lhs; whnf
                                refine bif_or2 hm ?_ ?_ <;> clear hm <;> intro hc15 hm
                                · simp only [hc15, ls]
                                  conv => lhs; whnf
                                  have hq := Option.some.inj hm; clear hm; subst hq
                                  try simp only [ls]
                                  exact fq (y := some (AV.tup [AV.agg [AV.int .i64 (0), AV.nilf], AV.bool (true)], []))
                                · simp only [hc15, ls]
                                  conv => lhs; whnf
                                  refine bif_or2 hm ?_ ?_ <;> clear hm <;> intro hc16 hm
                                  · simp only [hc16, ls]
                                    conv => lhs; whnf
                                    have hq := Option.some.inj hm; clear hm; subst hq
                                    try simp only [ls]
                                    exact fq (y := some (AV.tup [AV.agg [AV.int .i64 (0), AV.nilf], AV.bool (true)], []))
                                  · simp only [hc16, ls]
                                    conv => lhs; whnf
                                    refine bif_or2 hm ?_ ?_ <;> clear hm <;> intro hc17 hm
                                    · simp only [hc17, ls]
                                      conv => lhs; whnf
                                      have hq := Option.some.inj hm; clear hm; subst hq
                                      try simp only [ls]
                                      exact fq (y := some (AV.tup [AV.agg [AV.int .i64 (0), AV.nilf], AV.bool (true)], []))
                                    · cases hm
end Go.Proofs.Ytmnnkeejgkhgpaa
end

section
namespace Go.Proofs.Ytmnnkeejgkhgpaa
set_option linter.unusedVariables false
set_option linter.unusedSimpArgs false
set_option maxRecDepth 100000

set_option maxHeartbeats 4000000 in
theorem ok_code_lies (n : Nat) : ∀ (v0_l : (List OpS)) (r : (Int × Int)), m_code_lies n v0_l = some r → callN Try.prog HH XT n 41 [AV.sl 3 (List.map encOp (v0_l))] [] = some (AV.tup [AV.int .i64 ((r).1), AV.int .i64 ((r).2)], []) := by
  cases n with
  | zero => intro v0_l r hm; exact absurd hm (by intro h; cases h)
  | succ n =>
    intro v0_l r hm
    rw [m_code_lies] at hm
    refine callN_eq' Try.func41 (by rfl) rfl rfl (Nat.le_of_ble_eq_true rfl) ?_
    intro call hc
    conv => lhs; whnf
    refine bind_some2 hm ?_; clear hm; intro o11 ho11 hm
    refine rounds_sim (σ := (Int × Int × Int)) (τ := (Int × Int)) (ν := (Int × Int)) 0 (fun (s1, s2, s3) a5 => stOf 54 [(4, AV.int .i64 (s1)), (5, AV.int .i64 (s2)), (11, AV.sl 3 (List.map encOp (v0_l))), (12, AV.int .i64 ((((v0_l).length : Nat) : Int))), (13, AV.int .i64 (s3))]) (fun (s1, s2, s3) a5 => []) (fun (x105, x106) a104 => stOf 54 [(4, AV.int .i64 (x105)), (5, AV.int .i64 (x106))]) (fun (x105, x106) a104 => []) (fun v => (AV.tup [AV.int .i64 ((v).1), AV.int .i64 ((v).2)], [])) (fun k s => code_lies_L0 n v0_l k ((s).1) ((s).2.1) ((s).2.2)) (fun s => rfl) o11 ?_ n (0, 0, 0) (fun _ => 0) _ _ ho11 ?_ (by first | rfl | (simp only [ls, List.map_append, List.map_cons, List.map_nil, List.append_nil, List.length_set, length_copyL] <;> rfl)) (by first | rfl | (simp only [ls, List.map_append, List.map_cons, List.map_nil, List.append_nil, List.length_set, length_copyL] <;> rfl))
    · intro k4 ss a5 K6 cont7 hK8 hcont9 hm hr10
      obtain ⟨s1, s2, s3⟩ := ss
      replace hm : code_lies_L0 n v0_l (k4 + 1) s1 s2 s3 = some o11 := hm
      rw [code_lies_L0] at hm
      conv => lhs; whnf
      refine bif_or2 hm ?_ ?_ <;> clear hm <;> intro hc12 hm
      · simp only [hc12, ls]
        conv => lhs; whnf
        refine bind_some2 hm ?_; clear hm; intro x13 hx13 hm
        refine bif_pos (by first | exact idx_in hx13 | exact idx_in' hx13) ?_
        simp only [idx_nth (f := encOp) hx13, ls]
        conv => lhs; whnf
        refine bind_some2 hm ?_; clear hm; intro y14 hy14 hm
        cases y14 with
        | c0 y16 =>
          dsimp only at hm
          have hk15 : call false 37 [AV.int .i64 (x13.op)] [] = some (AV.tup [AV.agg [AV.int .i64 ((y16).1), AV.nilf], AV.bool ((y16).2)], []) := (hc _ _ _).trans (ok_code_of n x13.op (.c0 y16) hy14)
          try simp only [List.drop_zero, ls]
          first | simp only [hk15] | rewrite [hk15]
          try simp only [ls]
          conv => lhs; whnf
          refine bif_or2 hm ?_ ?_ <;> clear hm <;> intro hc27 hm
          · simp only [hc27, ls]
            conv => lhs; whnf
            refine bif_or2 hm ?_ ?_ <;> clear hm <;> intro hc28 hm
            · simp only [hc28, ls]
              conv => lhs; whnf
              refine bif_or2 hm ?_ ?_ <;> clear hm <;> intro hc29 hm
              · simp only [hc29, ls]
                conv => lhs; whnf
                have hq := Option.some.inj hm; clear hm; subst hq
                refine (hK8 _ _).trans ?_
                refine Eq.trans ?_ (Eq.symm (show _ = some _ from hr10))
                conv => lhs; whnf
                try simp only [ls]
                exact fq (y := some (AV.tup [AV.int .i64 ((-1)), AV.int .i64 ((-1))], []))
              · simp only [hc29, ls]
                conv => lhs; whnf
                exact cq (hcont9 (IntKind.i64.wrap (s1 + (IntKind.i64.wrap (1 - ((y16).1)))), (if s2 < (IntKind.i64.wrap (s1 + (IntKind.i64.wrap (1 - ((y16).1))))) then (IntKind.i64.wrap (s1 + (IntKind.i64.wrap (1 - ((y16).1))))) else s2), IntKind.i64.wrap (s3 + 1)) (fun _ => 0) hm)
            · simp only [hc28, ls]
              conv => lhs; whnf
              refine bif_or2 hm ?_ ?_ <;> clear hm <;> intro hc30 hm
              · simp only [hc30, ls]
                conv => lhs; whnf
                refine bif_or2 hm ?_ ?_ <;> clear hm <;> intro hc31 hm
                · simp only [hc31, ls]
                  conv => lhs; whnf
                  have hq := Option.some.inj hm; clear hm; subst hq
                  refine (hK8 _ _).trans ?_
                  refine Eq.trans ?_ (Eq.symm (show _ = some _ from hr10))
                  conv => lhs; whnf
                  try simp only [ls]
                  exact fq (y := some (AV.tup [AV.int .i64 ((-1)), AV.int .i64 ((-1))], []))
                · simp only [hc31, ls]
                  conv => lhs; whnf
                  exact cq (hcont9 (IntKind.i64.wrap (s1 + (IntKind.i64.wrap (1 - ((y16).1)))), (if s2 < (IntKind.i64.wrap (s1 + (IntKind.i64.wrap (1 - ((y16).1))))) then (IntKind.i64.wrap (s1 + (IntKind.i64.wrap (1 - ((y16).1))))) else s2), IntKind.i64.wrap (s3 + 1)) (fun _ => 0) hm)
              · simp only [hc30, ls]
                conv => lhs; whnf
                have hq := Option.some.inj hm; clear hm; subst hq
                refine (hK8 _ _).trans ?_
                refine Eq.trans ?_ (Eq.symm (show _ = some _ from hr10))
                conv => lhs; whnf
                try simp only [ls]
                exact fq (y := some (AV.tup [AV.int .i64 ((-1)), AV.int .i64 ((-1))], []))
          · simp only [hc27, ls]
            conv => lhs; whnf
            refine bif_or2 hm ?_ ?_ <;> clear hm <;> intro hc32 hm
            · simp only [hc32, ls]
              conv => lhs; whnf
              refine bif_or2 hm ?_ ?_ <;> clear hm <;> intro hc33 hm
              · simp only [hc33, ls]
                conv => lhs; whnf
                have hq := Option.some.inj hm; clear hm; subst hq
                refine (hK8 _ _).trans ?_
                refine Eq.trans ?_ (Eq.symm (show _ = some _ from hr10))
                conv => lhs; whnf
                try simp only [ls]
                exact fq (y := some (AV.tup [AV.int .i64 ((-1)), AV.int .i64 ((-1))], []))
              · simp only [hc33, ls]
                conv => lhs; whnf
                exact cq (hcont9 (IntKind.i64.wrap (s1 + (IntKind.i64.wrap (1 - ((y16).1)))), (if s2 < (IntKind.i64.wrap (s1 + (IntKind.i64.wrap (1 - ((y16).1))))) then (IntKind.i64.wrap (s1 + (IntKind.i64.wrap (1 - ((y16).1))))) else s2), IntKind.i64.wrap (s3 + 1)) (fun _ => 0) hm)
            · simp only [hc32, ls]
              conv => lhs; whnf
              have hq := Option.some.inj hm; clear hm; subst hq
              refine (hK8 _ _).trans ?_
              refine Eq.trans ?_ (Eq.symm (show _ = some _ from hr10))
              conv => lhs; whnf
              try simp only [ls]
              exact fq (y := some (AV.tup [AV.int .i64 ((-1)), AV.int .i64 ((-1))], []))
        | c1 y17 =>
          dsimp only at hm
          have hk15 : call false 37 [AV.int .i64 (x13.op)] [] = some (AV.tup [AV.agg [AV.int .i64 ((y17).1), AV.func 59 [] []], AV.bool ((y17).2)], []) := (hc _ _ _).trans (ok_code_of n x13.op (.c1 y17) hy14)
          try simp only [List.drop_zero, ls]
          first | simp only [hk15] | rewrite [hk15]
          try simp only [ls]
          conv => lhs; whnf
          refine bif_or2 hm ?_ ?_ <;> clear hm <;> intro hc34 hm
          · simp only [hc34, ls]
            conv => lhs; whnf
            refine bif_or2 hm ?_ ?_ <;> clear hm <;> intro hc35 hm
            · simp only [hc35, ls]
              conv => lhs; whnf
              refine bif_or2 hm ?_ ?_ <;> clear hm <;> intro hc36 hm
              · simp only [hc36, ls]
                conv => lhs; whnf
                have hq := Option.some.inj hm; clear hm; subst hq
                refine (hK8 _ _).trans ?_
                refine Eq.trans ?_ (Eq.symm (show _ = some _ from hr10))
                conv => lhs; whnf
                try simp only [ls]
                exact fq (y := some (AV.tup [AV.int .i64 ((-1)), AV.int .i64 ((-1))], []))
              · simp only [hc36, ls]
                conv => lhs; whnf
                exact cq (hcont9 (IntKind.i64.wrap (s1 + (IntKind.i64.wrap (1 - ((y17).1)))), (if s2 < (IntKind.i64.wrap (s1 + (IntKind.i64.wrap (1 - ((y17).1))))) then (IntKind.i64.wrap (s1 + (IntKind.i64.wrap (1 - ((y17).1))))) else s2), IntKind.i64.wrap (s3 + 1)) (fun _ => 0) hm)
            · simp only [hc35, ls]
              conv => lhs; whnf
              refine bif_or2 hm ?_ ?_ <;> clear hm <;> intro hc37 hm
              · simp only [hc37, ls]
                conv => lhs; whnf
                refine bif_or2 hm ?_ ?_ <;> clear hm <;> intro hc38 hm
                · simp only [hc38, ls]
                  conv => lhs; whnf
                  have hq := Option.some.inj hm; clear hm; subst hq
                  refine (hK8 _ _).trans ?_
                  refine Eq.trans ?_ (Eq.symm (show _ = some _ from hr10))
                  conv => lhs; whnf
                  try simp only [ls]
                  exact fq (y := some (AV.tup [AV.int .i64 ((-1)), AV.int .i64 ((-1))], []))
                · simp only [hc38, ls]
                  conv => lhs; whnf
                  exact cq (hcont9 (IntKind.i64.wrap (s1 + (IntKind.i64.wrap (1 - ((y17).1)))), (if s2 < (IntKind.i64.wrap (s1 + (IntKind.i64.wrap (1 - ((y17).1))))) then (IntKind.i64.wrap (s1 + (IntKind.i64.wrap (1 - ((y17).1))))) else s2), IntKind.i64.wrap (s3 + 1)) (fun _ => 0) hm)
              · simp only [hc37, ls]
                conv => lhs; whnf
                have hq := Option.some.inj hm; clear hm; subst hq
                refine (hK8 _ _).trans ?_
                refine Eq.trans ?_ (Eq.symm (show _ = some _ from hr10))
                conv => lhs; whnf
                try simp only [ls]
                exact fq (y := some (AV.tup [AV.int .i64 ((-1)), AV.int .i64 ((-1))], []))
          · simp only [hc34, ls]
            conv => lhs; whnf
            refine bif_or2 hm ?_ ?_ <;> clear hm <;> intro hc39 hm
            · simp only [hc39, ls]
              conv => lhs; whnf
              refine bif_or2 hm ?_ ?_ <;> clear hm <;> intro hc40 hm
              · simp only [hc40, ls]
                conv => lhs; whnf
                have hq := Option.some.inj hm; clear hm; subst hq
                refine (hK8 _ _).trans ?_
                refine Eq.trans ?_ (Eq.symm (show _ = some _ from hr10))
                conv => lhs; whnf
                try simp only [ls]
                exact fq (y := some (AV.tup [AV.int .i64 ((-1)), AV.int .i64 ((-1))], []))
              · simp only [hc40, ls]
                conv => lhs; whnf
                exact cq (hcont9 (IntKind.i64.wrap (s1 + (IntKind.i64.wrap (1 - ((y17).1)))), (if s2 < (IntKind.i64.wrap (s1 + (IntKind.i64.wrap (1 - ((y17).1))))) then (IntKind.i64.wrap (s1 + (IntKind.i64.wrap (1 - ((y17).1))))) else s2), IntKind.i64.wrap (s3 + 1)) (fun _ => 0) hm)
            · simp only [hc39, ls]
              conv => lhs; whnf
              have hq := Option.some.inj hm; clear hm; subst hq
              refine (hK8 _ _).trans ?_
              refine Eq.trans ?_ (Eq.symm (show _ = some _ from hr10))
              conv => lhs; whnf
              try simp only [ls]
              exact fq (y := some (AV.tup [AV.int .i64 ((-1)), AV.int .i64 ((-1))], []))
        | c2 y18 =>
          dsimp only at hm
          have hk15 : call false 37 [AV.int .i64 (x13.op)] [] = some (AV.tup [AV.agg [AV.int .i64 ((y18).1), AV.func 58 [] []], AV.bool ((y18).2)], []) := (hc _ _ _).trans (ok_code_of n x13.op (.c2 y18) hy14)
          try simp only [List.drop_zero, ls]
          first | simp only [hk15] | rewrite [hk15]
          try simp only [ls]
          conv => lhs; whnf
          refine bif_or2 hm ?_ ?_ <;> clear hm <;> intro hc41 hm
          · simp only [hc41, ls]
            conv => lhs; whnf
            refine bif_or2 hm ?_ ?_ <;> clear hm <;> intro hc42 hm
            · simp only [hc42, ls]
              conv => lhs; whnf
              refine bif_or2 hm ?_ ?_ <;> clear hm <;> intro hc43 hm
              · simp only [hc43, ls]
                conv => lhs; whnf
                have hq := Option.some.inj hm; clear hm; subst hq
                refine (hK8 _ _).trans ?_
                refine Eq.trans ?_ (Eq.symm (show _ = some _ from hr10))
                conv => lhs; whnf
                try simp only [ls]
                exact fq (y := some (AV.tup [AV.int .i64 ((-1)), AV.int .i64 ((-1))], []))
              · simp only [hc43, ls]
                conv => lhs; whnf
                exact cq (hcont9 (IntKind.i64.wrap (s1 + (IntKind.i64.wrap (1 - ((y18).1)))), (if s2 < (IntKind.i64.wrap (s1 + (IntKind.i64.wrap (1 - ((y18).1))))) then (IntKind.i64.wrap (s1 + (IntKind.i64.wrap (1 - ((y18).1))))) else s2), IntKind.i64.wrap (s3 + 1)) (fun _ => 0) hm)
            · simp only [hc42, ls]
              conv => lhs; whnf
              refine bif_or2 hm ?_ ?_ <;> clear hm <;> intro hc44 hm
              · simp only [hc44, ls]
                conv => lhs; whnf
                refine bif_or2 hm ?_ ?_ <;> clear hm <;> intro hc45 hm
                · simp only [hc45, ls]
                  conv => lhs; whnf
                  have hq := Option.some.inj hm; clear hm; subst hq
                  refine (hK8 _ _).trans ?_
                  refine Eq.trans ?_ (Eq.symm (show _ = some _ from hr10))
                  conv => lhs; whnf
                  try simp only [ls]
                  exact fq (y := some (AV.tup [AV.int .i64 ((-1)), AV.int .i64 ((-1))], []))
                · simp only [hc45, ls]
                  conv => lhs; whnf
                  exact cq (hcont9 (IntKind.i64.wrap (s1 + (IntKind.i64.wrap (1 - ((y18).1)))), (if s2 < (IntKind.i64.wrap (s1 + (IntKind.i64.wrap (1 - ((y18).1))))) then (IntKind.i64.wrap (s1 + (IntKind.i64.wrap (1 - ((y18).1))))) else s2), IntKind.i64.wrap (s3 + 1)) (fun _ => 0) hm)
              · simp only [hc44, ls]
                conv => lhs; whnf
                have hq := Option.some.inj hm; clear hm; subst hq
                refine (hK8 _ _).trans ?_
                refine Eq.trans ?_ (Eq.symm (show _ = some _ from hr10))
                conv => lhs; whnf
                try simp only [ls]
                exact fq (y := some (AV.tup [AV.int .i64 ((-1)), AV.int .i64 ((-1))], []))
          · simp only [hc41, ls]
            conv => lhs; whnf
            refine bif_or2 hm ?_ ?_ <;> clear hm <;> intro hc46 hm
            · simp only [hc46, ls]
              conv => lhs; whnf
              refine bif_or2 hm ?_ ?_ <;> clear hm <;> intro hc47 hm
              · simp only [hc47, ls]
                conv => lhs; whnf
                have hq := Option.some.inj hm; clear hm; subst hq
                refine (hK8 _ _).trans ?_
                refine Eq.trans ?_ (Eq.symm (show _ = some _ from hr10))
                conv => lhs; whnf
                try simp only [ls]
                exact fq (y := some (AV.tup [AV.int .i64 ((-1)), AV.int .i64 ((-1))], []))
              · simp only [hc47, ls]
                conv => lhs; whnf
                exact cq (hcont9 (IntKind.i64.wrap (s1 + (IntKind.i64.wrap (1 - ((y18).1)))), (if s2 < (IntKind.i64.wrap (s1 + (IntKind.i64.wrap (1 - ((y18).1))))) then (IntKind.i64.wrap (s1 + (IntKind.i64.wrap (1 - ((y18).1))))) else s2), IntKind.i64.wrap (s3 + 1)) (fun _ => 0) hm)
            · simp only [hc46, ls]
              conv => lhs; whnf
              have hq := Option.some.inj hm; clear hm; subst hq
              refine (hK8 _ _).trans ?_
              refine Eq.trans ?_ (Eq.symm (show _ = some _ from hr10))
              conv => lhs; whnf
              try simp only [ls]
              exact fq (y := some (AV.tup [AV.int .i64 ((-1)), AV.int .i64 ((-1))], []))
        | c3 y19 =>
          dsimp only at hm
          have hk15 : call false 37 [AV.int .i64 (x13.op)] [] = some (AV.tup [AV.agg [AV.int .i64 ((y19).1), AV.func 57 [] []], AV.bool ((y19).2)], []) := (hc _ _ _).trans (ok_code_of n x13.op (.c3 y19) hy14)
          try simp only [List.drop_zero, ls]
          first | simp only [hk15] | rewrite [hk15]
          try simp only [ls]
          conv => lhs; whnf
          refine bif_or2 hm ?_ ?_ <;> clear hm <;> intro hc48 hm
          · simp only [hc48, ls]
            conv => lhs; whnf
            refine bif_or2 hm ?_ ?_ <;> clear hm <;> intro hc49 hm
            · simp only [hc49, ls]
              conv => lhs; whnf
              refine bif_or2 hm ?_ ?_ <;> clear hm <;> intro hc50 hm
              · simp only [hc50, ls]
                conv => lhs; whnf
                have hq := Option.some.inj hm; clear hm; subst hq
                refine (hK8 _ _).trans ?_
                refine Eq.trans ?_ (Eq.symm (show _ = some _ from hr10))
                conv => lhs; whnf
                try simp only [ls]
                exact fq (y := some (AV.tup [AV.int .i64 ((-1)), AV.int .i64 ((-1))], []))
              · simp only [hc50, ls]
                conv => lhs; whnf
                exact cq (hcont9 (IntKind.i64.wrap (s1 + (IntKind.i64.wrap (1 - ((y19).1)))), (if s2 < (IntKind.i64.wrap (s1 + (IntKind.i64.wrap (1 - ((y19).1))))) then (IntKind.i64.wrap (s1 + (IntKind.i64.wrap (1 - ((y19).1))))) else s2), IntKind.i64.wrap (s3 + 1)) (fun _ => 0) hm)
            · simp only [hc49, ls]
              conv => lhs; whnf
              refine bif_or2 hm ?_ ?_ <;> clear hm <;> intro hc51 hm
              · simp only [hc51, ls]
                conv => lhs; whnf
                refine bif_or2 hm ?_ ?_ <;> clear hm <;> intro hc52 hm
                · simp only [hc52, ls]
                  conv => lhs; whnf
                  have hq := Option.some.inj hm; clear hm; subst hq
                  refine (hK8 _ _).trans ?_
                  refine Eq.trans ?_ (Eq.symm (show _ = some _ from hr10))
                  conv => lhs; whnf
                  try simp only [ls]
                  exact fq (y := some (AV.tup [AV.int .i64 ((-1)), AV.int .i64 ((-1))], []))
                · simp only [hc52, ls]
                  conv => lhs; whnf
                  exact cq (hcont9 (IntKind.i64.wrap (s1 + (IntKind.i64.wrap (1 - ((y19).1)))), (if s2 < (IntKind.i64.wrap (s1 + (IntKind.i64.wrap (1 - ((y19).1))))) then (IntKind.i64.wrap (s1 + (IntKind.i64.wrap (1 - ((y19).1))))) else s2), IntKind.i64.wrap (s3 + 1)) (fun _ => 0) hm)
              · simp only [hc51, ls]
                conv => lhs; whnf
                have hq := Option.some.inj hm; clear hm; subst hq
                refine (hK8 _ _).trans ?_
                refine Eq.trans ?_ (Eq.symm (show _ = some _ from hr10))
                conv => lhs; whnf
                try simp only [ls]
                exact fq (y := some (AV.tup [AV.int .i64 ((-1)), AV.int .i64 ((-1))], []))
          · simp only [hc48, ls]
            conv => lhs; whnf
            refine bif_or2 hm ?_ ?_ <;> clear hm <;> intro hc53 hm
            · simp only [hc53, ls]
              conv => lhs; whnf
              refine bif_or2 hm ?_ ?_ <;> clear hm <;> intro hc54 hm
              · simp only [hc54, ls]
                conv => lhs; whnf
                have hq := Option.some.inj hm; clear hm; subst hq
                refine (hK8 _ _).trans ?_
                refine Eq.trans ?_ (Eq.symm (show _ = some _ from hr10))
                conv => lhs; whnf
                try simp only [ls]
                exact fq (y := some (AV.tup [AV.int .i64 ((-1)), AV.int .i64 ((-1))], []))
              · simp only [hc54, ls]
                conv => lhs; whnf
                exact cq (hcont9 (IntKind.i64.wrap (s1 + (IntKind.i64.wrap (1 - ((y19).1)))), (if s2 < (IntKind.i64.wrap (s1 + (IntKind.i64.wrap (1 - ((y19).1))))) then (IntKind.i64.wrap (s1 + (IntKind.i64.wrap (1 - ((y19).1))))) else s2), IntKind.i64.wrap (s3 + 1)) (fun _ => 0) hm)
            · simp only [hc53, ls]
              conv => lhs; whnf
              have hq := Option.some.inj hm; clear hm; subst hq
              refine (hK8 _ _).trans ?_
              refine Eq.trans ?_ (Eq.symm (show _ = some _ from hr10))
              conv => lhs; whnf
              try simp only [ls]
              exact fq (y := some (AV.tup [AV.int .i64 ((-1)), AV.int .i64 ((-1))], []))
        | c4 y20 =>
          dsimp only at hm
          have hk15 : call false 37 [AV.int .i64 (x13.op)] [] = some (AV.tup [AV.agg [AV.int .i64 ((y20).1), AV.func 56 [] []], AV.bool ((y20).2)], []) := (hc _ _ _).trans (ok_code_of n x13.op (.c4 y20) hy14)
          try simp only [List.drop_zero, ls]
          first | simp only [hk15] | rewrite [hk15]
          try simp only [ls]
          conv => lhs; whnf
          refine bif_or2 hm ?_ ?_ <;> clear hm <;> intro hc55 hm
          · simp only [hc55, ls]
            conv => lhs; whnf
            refine bif_or2 hm ?_ ?_ <;> clear hm <;> intro hc56 hm
            · simp only [hc56, ls]
              conv => lhs; whnf
              refine bif_or2 hm ?_ ?_ <;> clear hm <;> intro hc57 hm
              · simp only [hc57, ls]
                conv => lhs; whnf
                have hq := Option.some.inj hm; clear hm; subst hq
                refine (hK8 _ _).trans ?_
                refine Eq.trans ?_ (Eq.symm (show _ = some _ from hr10))
                conv => lhs; whnf
                try simp only [ls]
                exact fq (y := some (AV.tup [AV.int .i64 ((-1)), AV.int .i64 ((-1))], []))
              · simp only [hc57, ls]
                conv => lhs; whnf
                exact cq (hcont9 (IntKind.i64.wrap (s1 + (IntKind.i64.wrap (1 - ((y20).1)))), (if s2 < (IntKind.i64.wrap (s1 + (IntKind.i64.wrap (1 - ((y20).1))))) then (IntKind.i64.wrap (s1 + (IntKind.i64.wrap (1 - ((y20).1))))) else s2), IntKind.i64.wrap (s3 + 1)) (fun _ => 0) hm)
            · simp only [hc56, ls]
              conv => lhs; whnf
              refine bif_or2 hm ?_ ?_ <;> clear hm <;> intro hc58 hm
              · simp only [hc58, ls]
                conv => lhs; whnf
                refine bif_or2 hm ?_ ?_ <;> clear hm <;> intro hc59 hm
                · simp only [hc59, ls]
                  conv => lhs; whnf
                  have hq := Option.some.inj hm; clear hm; subst hq
                  refine (hK8 _ _).trans ?_
                  refine Eq.trans ?_ (Eq.symm (show _ = some _ from hr10))
                  conv => lhs; whnf
                  try simp only [ls]
                  exact fq (y := some (AV.tup [AV.int .i64 ((-1)), AV.int .i64 ((-1))], []))
                · simp only [hc59, ls]
                  conv => lhs; whnf
                  exact cq (hcont9 (IntKind.i64.wrap (s1 + (IntKind.i64.wrap (1 - ((y20).1)))), (if s2 < (IntKind.i64.wrap (s1 + (IntKind.i64.wrap (1 - ((y20).1))))) then (IntKind.i64.wrap (s1 + (IntKind.i64.wrap (1 - ((y20).1))))) else s2), IntKind.i64.wrap (s3 + 1)) (fun _ => 0) hm)
              · simp only [hc58, ls]
                conv => lhs; whnf
                have hq := Option.some.inj hm; clear hm; subst hq
                refine (hK8 _ _).trans ?_
                refine Eq.trans ?_ (Eq.symm (show _ = some _ from hr10))
                conv => lhs; whnf
                try simp only [ls]
                exact fq (y := some (AV.tup [AV.int .i64 ((-1)), AV.int .i64 ((-1))], []))
          · simp only [hc55, ls]
            conv => lhs; whnf
            refine bif_or2 hm ?_ ?_ <;> clear hm <;> intro hc60 hm
            · simp only [hc60, ls]
              conv => lhs; whnf
              refine bif_or2 hm ?_ ?_ <;> clear hm <;> intro hc61 hm
              · simp only [hc61, ls]
                conv => lhs; whnf
                have hq := Option.some.inj hm; clear hm; subst hq
                refine (hK8 _ _).trans ?_
                refine Eq.trans ?_ (Eq.symm (show _ = some _ from hr10))
                conv => lhs; whnf
                try simp only [ls]
                exact fq (y := some (AV.tup [AV.int .i64 ((-1)), AV.int .i64 ((-1))], []))
              · simp only [hc61, ls]
                conv => lhs; whnf
                exact cq (hcont9 (IntKind.i64.wrap (s1 + (IntKind.i64.wrap (1 - ((y20).1)))), (if s2 < (IntKind.i64.wrap (s1 + (IntKind.i64.wrap (1 - ((y20).1))))) then (IntKind.i64.wrap (s1 + (IntKind.i64.wrap (1 - ((y20).1))))) else s2), IntKind.i64.wrap (s3 + 1)) (fun _ => 0) hm)
            · simp only [hc60, ls]
              conv => lhs; whnf
              have hq := Option.some.inj hm; clear hm; subst hq
              refine (hK8 _ _).trans ?_
              refine Eq.trans ?_ (Eq.symm (show _ = some _ from hr10))
              conv => lhs; whnf
              try simp only [ls]
              exact fq (y := some (AV.tup [AV.int .i64 ((-1)), AV.int .i64 ((-1))], []))
        | c5 y21 =>
          dsimp only at hm
          have hk15 : call false 37 [AV.int .i64 (x13.op)] [] = some (AV.tup [AV.agg [AV.int .i64 ((y21).1), AV.func 55 [] []], AV.bool ((y21).2)], []) := (hc _ _ _).trans (ok_code_of n x13.op (.c5 y21) hy14)
          try simp only [List.drop_zero, ls]
          first | simp only [hk15] | rewrite [hk15]
          try simp only [ls]
          conv => lhs; whnf
          refine bif_or2 hm ?_ ?_ <;> clear hm <;> intro hc62 hm
          · simp only [hc62, ls]
            conv => lhs; whnf
            refine bif_or2 hm ?_ ?_ <;> clear hm <;> intro hc63 hm
            · simp only [hc63, ls]
              conv => lhs; whnf
              refine bif_or2 hm ?_ ?_ <;> clear hm <;> intro hc64 hm
              · simp only [hc64, ls]
                conv => lhs; whnf
                have hq := Option.some.inj hm; clear hm; subst hq
                refine (hK8 _ _).trans ?_
                refine Eq.trans ?_ (Eq.symm (show _ = some _ from hr10))
                conv => lhs; whnf
                try simp only [ls]
                exact fq (y := some (AV.tup [AV.int .i64 ((-1)), AV.int .i64 ((-1))], []))
              · simp only [hc64, ls]
                conv => lhs; whnf
                exact cq (hcont9 (IntKind.i64.wrap (s1 + (IntKind.i64.wrap (1 - ((y21).1)))), (if s2 < (IntKind.i64.wrap (s1 + (IntKind.i64.wrap (1 - ((y21).1))))) then (IntKind.i64.wrap (s1 + (IntKind.i64.wrap (1 - ((y21).1))))) else s2), IntKind.i64.wrap (s3 + 1)) (fun _ => 0) hm)
            · simp only [hc63, ls]
              conv => lhs; whnf
              refine bif_or2 hm ?_ ?_ <;> clear hm <;> intro hc65 hm
              · simp only [hc65, ls]
                conv => lhs; whnf
                refine bif_or2 hm ?_ ?_ <;> clear hm <;> intro hc66 hm
                · simp only [hc66, ls]
                  conv => lhs; whnf
                  have hq := Option.some.inj hm; clear hm; subst hq
                  refine (hK8 _ _).trans ?_
                  refine Eq.trans ?_ (Eq.symm (show _ = some _ from hr10))
                  conv => lhs; whnf
                  try simp only [ls]
                  exact fq (y := some (AV.tup [AV.int .i64 ((-1)), AV.int .i64 ((-1))], []))
                · simp only [hc66, ls]
                  conv => lhs; whnf
                  exact cq (hcont9 (IntKind.i64.wrap (s1 + (IntKind.i64.wrap (1 - ((y21).1)))), (if s2 < (IntKind.i64.wrap (s1 + (IntKind.i64.wrap (1 - ((y21).1))))) then (IntKind.i64.wrap (s1 + (IntKind.i64.wrap (1 - ((y21).1))))) else s2), IntKind.i64.wrap (s3 + 1)) (fun _ => 0) hm)
              · simp only [hc65, ls]
                conv => lhs; whnf
                have hq := Option.some.inj hm; clear hm; subst hq
                refine (hK8 _ _).trans ?_
                refine Eq.trans ?_ (Eq.symm (show _ = some _ from hr10))
                conv => lhs; whnf
                try simp only [ls]
                exact fq (y := some (AV.tup [AV.int .i64 ((-1)), AV.int .i64 ((-1))], []))
          · simp only [hc62, ls]
            conv => lhs; whnf
            refine bif_or2 hm ?_ ?_ <;> clear hm <;> intro hc67 hm
            · simp only [hc67, ls]
              conv => lhs; whnf
              refine bif_or2 hm ?_ ?_ <;> clear hm <;> intro hc68 hm
              · simp only [hc68, ls]
                conv => lhs; whnf
                have hq := Option.some.inj hm; clear hm; subst hq
                refine (hK8 _ _).trans ?_
                refine Eq.trans ?_ (Eq.symm (show _ = some _ from hr10))
                conv => lhs; whnf
                try simp only [ls]
                exact fq (y := some (AV.tup [AV.int .i64 ((-1)), AV.int .i64 ((-1))], []))
              · simp only [hc68, ls]
                conv => lhs; whnf
                exact cq (hcont9 (IntKind.i64.wrap (s1 + (IntKind.i64.wrap (1 - ((y21).1)))), (if s2 < (IntKind.i64.wrap (s1 + (IntKind.i64.wrap (1 - ((y21).1))))) then (IntKind.i64.wrap (s1 + (IntKind.i64.wrap (1 - ((y21).1))))) else s2), IntKind.i64.wrap (s3 + 1)) (fun _ => 0) hm)
            · simp only [hc67, ls]
              conv => lhs; whnf
              have hq := Option.some.inj hm; clear hm; subst hq
              refine (hK8 _ _).trans ?_
              refine Eq.trans ?_ (Eq.symm (show _ = some _ from hr10))
              conv => lhs; whnf
              try simp only [ls]
              exact fq (y := some (AV.tup [AV.int .i64 ((-1)), AV.int .i64 ((-1))], []))
        | c6 y22 =>
          dsimp only at hm
          have hk15 : call false 37 [AV.int .i64 (x13.op)] [] = some (AV.tup [AV.agg [AV.int .i64 ((y22).1), AV.func 54 [] []], AV.bool ((y22).2)], []) := (hc _ _ _).trans (ok_code_of n x13.op (.c6 y22) hy14)
          try simp only [List.drop_zero, ls]
          first | simp only [hk15] | rewrite [hk15]
          try simp only [ls]
          conv => lhs; whnf
          refine bif_or2 hm ?_ ?_ <;> clear hm <;> intro hc69 hm
          · simp only [hc69, ls]
            conv => lhs; whnf
            refine bif_or2 hm ?_ ?_ <;> clear hm <;> intro hc70 hm
            · simp only [hc70, ls]
              conv => lhs; whnf
              refine bif_or2 hm ?_ ?_ <;> clear hm <;> intro hc71 hm
              · simp only [hc71, ls]
                conv => lhs; whnf
                have hq := Option.some.inj hm; clear hm; subst hq
                refine (hK8 _ _).trans ?_
                refine Eq.trans ?_ (Eq.symm (show _ = some _ from hr10))
                conv => lhs; whnf
                try simp only [ls]
                exact fq (y := some (AV.tup [AV.int .i64 ((-1)), AV.int .i64 ((-1))], []))
              · simp only [hc71, ls]
                conv => lhs; whnf
                exact cq (hcont9 (IntKind.i64.wrap (s1 + (IntKind.i64.wrap (1 - ((y22).1)))), (if s2 < (IntKind.i64.wrap (s1 + (IntKind.i64.wrap (1 - ((y22).1))))) then (IntKind.i64.wrap (s1 + (IntKind.i64.wrap (1 - ((y22).1))))) else s2), IntKind.i64.wrap (s3 + 1)) (fun _ => 0) hm)
            · simp only [hc70, ls]
              conv => lhs; whnf
              refine bif_or2 hm ?_ ?_ <;> clear hm <;> intro hc72 hm
              · simp only [hc72, ls]
                conv => lhs; whnf
                refine bif_or2 hm ?_ ?_ <;> clear hm <;> intro hc73 hm
                · simp only [hc73, ls]
                  conv => lhs; whnf
                  have hq := Option.some.inj hm; clear hm; subst hq
                  refine (hK8 _ _).trans ?_
                  refine Eq.trans ?_ (Eq.symm (show _ = some _ from hr10))
                  conv => lhs; whnf
                  try simp only [ls]
                  exact fq (y := some (AV.tup [AV.int .i64 ((-1)), AV.int .i64 ((-1))], []))
                · simp only [hc73, ls]
                  conv => lhs; whnf
                  exact cq (hcont9 (IntKind.i64.wrap (s1 + (IntKind.i64.wrap (1 - ((y22).1)))), (if s2 < (IntKind.i64.wrap (s1 + (IntKind.i64.wrap (1 - ((y22).1))))) then (IntKind.i64.wrap (s1 + (IntKind.i64.wrap (1 - ((y22).1))))) else s2), IntKind.i64.wrap (s3 + 1)) (fun _ => 0) hm)
              · simp only [hc72, ls]
                conv => lhs; whnf
                have hq := Option.some.inj hm; clear hm; subst hq
                refine (hK8 _ _).trans ?_
                refine Eq.trans ?_ (Eq.symm (show _ = some _ from hr10))
                conv => lhs; whnf
                try simp only [ls]
                exact fq (y := some (AV.tup [AV.int .i64 ((-1)), AV.int .i64 ((-1))], []))
          · simp only [hc69, ls]
            conv => lhs; whnf
            refine bif_or2 hm ?_ ?_ <;> clear hm <;> intro hc74 hm
            · simp only [hc74, ls]
              conv => lhs; whnf
              refine bif_or2 hm ?_ ?_ <;> clear hm <;> intro hc75 hm
              · simp only [hc75, ls]
                conv => lhs; whnf
                have hq := Option.some.inj hm; clear hm; subst hq
                refine (hK8 _ _).trans ?_
                refine Eq.trans ?_ (Eq.symm (show _ = some _ from hr10))
                conv => lhs; whnf
                try simp only [ls]
                exact fq (y := some (AV.tup [AV.int .i64 ((-1)), AV.int .i64 ((-1))], []))
              · simp only [hc75, ls]
                conv => lhs; whnf
                exact cq (hcont9 (IntKind.i64.wrap (s1 + (IntKind.i64.wrap (1 - ((y22).1)))), (if s2 < (IntKind.i64.wrap (s1 + (IntKind.i64.wrap (1 - ((y22).1))))) then (IntKind.i64.wrap (s1 + (IntKind.i64.wrap (1 - ((y22).1))))) else s2), IntKind.i64.wrap (s3 + 1)) (fun _ => 0) hm)
            · simp only [hc74, ls]
              conv => lhs; whnf
              have hq := Option.some.inj hm; clear hm; subst hq
              refine (hK8 _ _).trans ?_
              refine Eq.trans ?_ (Eq.symm (show _ = some _ from hr10))
              conv => lhs; whnf
              try simp only [ls]
              exact fq (y := some (AV.tup [AV.int .i64 ((-1)), AV.int .i64 ((-1))], []))
        | c7 y23 =>
          dsimp only at hm
          have hk15 : call false 37 [AV.int .i64 (x13.op)] [] = some (AV.tup [AV.agg [AV.int .i64 ((y23).1), AV.func 53 [] []], AV.bool ((y23).2)], []) := (hc _ _ _).trans (ok_code_of n x13.op (.c7 y23) hy14)
          try simp only [List.drop_zero, ls]
          first | simp only [hk15] | rewrite [hk15]
          try simp only [ls]
          conv => lhs; whnf
          refine bif_or2 hm ?_ ?_ <;> clear hm <;> intro hc76 hm
          · simp only [hc76, ls]
            conv => lhs; whnf
            refine bif_or2 hm ?_ ?_ <;> clear hm <;> intro hc77 hm
            · simp only [hc77, ls]
              conv => lhs; whnf
              refine bif_or2 hm ?_ ?_ <;> clear hm <;> intro hc78 hm
              · simp only [hc78, ls]
                conv => lhs; whnf
                have hq := Option.some.inj hm; clear hm; subst hq
                refine (hK8 _ _).trans ?_
                refine Eq.trans ?_ (Eq.symm (show _ = some _ from hr10))
                conv => lhs; whnf
                try simp only [ls]
                exact fq (y := some (AV.tup [AV.int .i64 ((-1)), AV.int .i64 ((-1))], []))
              · simp only [hc78, ls]
                conv => lhs; whnf
                exact cq (hcont9 (IntKind.i64.wrap (s1 + (IntKind.i64.wrap (1 - ((y23).1)))), (if s2 < (IntKind.i64.wrap (s1 + (IntKind.i64.wrap (1 - ((y23).1))))) then (IntKind.i64.wrap (s1 + (IntKind.i64.wrap (1 - ((y23).1))))) else s2), IntKind.i64.wrap (s3 + 1)) (fun _ => 0) hm)
            · simp only [hc77, ls]
              conv => lhs; whnf
              refine bif_or2 hm ?_ ?_ <;> clear hm <;> intro hc79 hm
              · simp only [hc79, ls]
                conv => lhs; whnf
                refine bif_or2 hm ?_ ?_ <;> clear hm <;> intro hc80 hm
                · simp only [hc80, ls]
                  conv => lhs; whnf
                  have hq := Option.some.inj hm; clear hm; subst hq
                  refine (hK8 _ _).trans ?_
                  refine Eq.trans ?_ (Eq.symm (show _ = some _ from hr10))
                  conv => lhs; whnf
                  try simp only [ls]
                  exact fq (y := some (AV.tup [AV.int .i64 ((-1)), AV.int .i64 ((-1))], []))
                · simp only [hc80, ls]
                  conv => lhs; whnf
                  exact cq (hcont9 (IntKind.i64.wrap (s1 + (IntKind.i64.wrap (1 - ((y23).1)))), (if s2 < (IntKind.i64.wrap (s1 + (IntKind.i64.wrap (1 - ((y23).1))))) then (IntKind.i64.wrap (s1 + (IntKind.i64.wrap (1 - ((y23).1))))) else s2), IntKind.i64.wrap (s3 + 1)) (fun _ => 0) hm)
              · simp only [hc79, ls]
                conv => lhs; whnf
                have hq := Option.some.inj hm; clear hm; subst hq
                refine (hK8 _ _).trans ?_
                refine Eq.trans ?_ (Eq.symm (show _ = some _ from hr10))
                conv => lhs; whnf
                try simp only [ls]
                exact fq (y := some (AV.tup [AV.int .i64 ((-1)), AV.int .i64 ((-1))], []))
          · simp only [hc76, ls]
            conv => lhs; whnf
            refine bif_or2 hm ?_ ?_ <;> clear hm <;> intro hc81 hm
            · simp only [hc81, ls]
              conv => lhs; whnf
              refine bif_or2 hm ?_ ?_ <;> clear hm <;> intro hc82 hm
              · simp only [hc82, ls]
                conv => lhs; whnf
                have hq := Option.some.inj hm; clear hm; subst hq
                refine (hK8 _ _).trans ?_
                refine Eq.trans ?_ (Eq.symm (show _ = some _ from hr10))
                conv => lhs; whnf
                try simp only [ls]
                exact fq (y := some (AV.tup [AV.int .i64 ((-1)), AV.int .i64 ((-1))], []))
              · simp only [hc82, ls]
                conv => lhs; whnf
                exact cq (hcont9 (IntKind.i64.wrap (s1 + (IntKind.i64.wrap (1 - ((y23).1)))), (if s2 < (IntKind.i64.wrap (s1 + (IntKind.i64.wrap (1 - ((y23).1))))) then (IntKind.i64.wrap (s1 + (IntKind.i64.wrap (1 - ((y23).1))))) else s2), IntKind.i64.wrap (s3 + 1)) (fun _ => 0) hm)
            · simp only [hc81, ls]
              conv => lhs; whnf
              have hq := Option.some.inj hm; clear hm; subst hq
              refine (hK8 _ _).trans ?_
              refine Eq.trans ?_ (Eq.symm (show _ = some _ from hr10))
              conv => lhs; whnf
              try simp only [ls]
              exact fq (y := some (AV.tup [AV.int .i64 ((-1)), AV.int .i64 ((-1))], []))
        | c8 y24 =>
          dsimp only at hm
          have hk15 : call false 37 [AV.int .i64 (x13.op)] [] = some (AV.tup [AV.agg [AV.int .i64 ((y24).1), AV.func 52 [] []], AV.bool ((y24).2)], []) := (hc _ _ _).trans (ok_code_of n x13.op (.c8 y24) hy14)
          try simp only [List.drop_zero, ls]
          first | simp only [hk15] | rewrite [hk15]
          try simp only [ls]
          conv => lhs; whnf
          refine bif_or2 hm ?_ ?_ <;> clear hm <;> intro hc83 hm
          · simp only [hc83, ls]
            conv => lhs; whnf
            refine bif_or2 hm ?_ ?_ <;> clear hm <;> intro hc84 hm
            · simp only [hc84, ls]
              conv => lhs; whnf
              refine bif_or2 hm ?_ ?_ <;> clear hm <;> intro hc85 hm
              · simp only [hc85, ls]
                conv => lhs; whnf
                have hq := Option.some.inj hm; clear hm; subst hq
                refine (hK8 _ _).trans ?_
                refine Eq.trans ?_ (Eq.symm (show _ = some _ from hr10))
                conv => lhs; whnf
                try simp only [ls]
                exact fq (y := some (AV.tup [AV.int .i64 ((-1)), AV.int .i64 ((-1))], []))
              · simp only [hc85, ls]
                conv => lhs; whnf
                exact cq (hcont9 (IntKind.i64.wrap (s1 + (IntKind.i64.wrap (1 - ((y24).1)))), (if s2 < (IntKind.i64.wrap (s1 + (IntKind.i64.wrap (1 - ((y24).1))))) then (IntKind.i64.wrap (s1 + (IntKind.i64.wrap (1 - ((y24).1))))) else s2), IntKind.i64.wrap (s3 + 1)) (fun _ => 0) hm)
            · simp only [hc84, ls]
              conv => lhs; whnf
              refine bif_or2 hm ?_ ?_ <;> clear hm <;> intro hc86 hm
              · simp only [hc86, ls]
                conv => lhs; whnf
                refine bif_or2 hm ?_ ?_ <;> clear hm <;> intro hc87 hm
                · simp only [hc87, ls]
                  conv => lhs; whnf
                  have hq := Option.some.inj hm; clear hm; subst hq
                  refine (hK8 _ _).trans ?_
                  refine Eq.trans ?_ (Eq.symm (show _ = some _ from hr10))
                  conv => lhs; whnf
                  try simp only [ls]
                  exact fq (y := some (AV.tup [AV.int .i64 ((-1)), AV.int .i64 ((-1))], []))
                · simp only [hc87, ls]
                  conv => lhs; whnf
                  exact cq (hcont9 (IntKind.i64.wrap (s1 + (IntKind.i64.wrap (1 - ((y24).1)))), (if s2 < (IntKind.i64.wrap (s1 + (IntKind.i64.wrap (1 - ((y24).1))))) then (IntKind.i64.wrap (s1 + (IntKind.i64.wrap (1 - ((y24).1))))) else s2), IntKind.i64.wrap (s3 + 1)) (fun _ => 0) hm)
              · simp only [hc86, ls]
                conv => lhs; whnf
                have hq := Option.some.inj hm; clear hm; subst hq
                refine (hK8 _ _).trans ?_
                refine Eq.trans ?_ (Eq.symm (show _ = some _ from hr10))
                conv => lhs; whnf
                try simp only [ls]
                exact fq (y := some (AV.tup [AV.int .i64 ((-1)), AV.int .i64 ((-1))], []))
          · simp only [hc83, ls]
            conv => lhs; whnf
            refine bif_or2 hm ?_ ?_ <;> clear hm <;> intro hc88 hm
            · simp only [hc88, ls]
              conv => lhs; whnf
              refine bif_or2 hm ?_ ?_ <;> clear hm <;> intro hc89 hm
              · simp only [hc89, ls]
                conv => lhs; whnf
                have hq := Option.some.inj hm; clear hm; subst hq
                refine (hK8 _ _).trans ?_
                refine Eq.trans ?_ (Eq.symm (show _ = some _ from hr10))
                conv => lhs; whnf
                try simp only [ls]
                exact fq (y := some (AV.tup [AV.int .i64 ((-1)), AV.int .i64 ((-1))], []))
              · simp only [hc89, ls]
                conv => lhs; whnf
                exact cq (hcont9 (IntKind.i64.wrap (s1 + (IntKind.i64.wrap (1 - ((y24).1)))), (if s2 < (IntKind.i64.wrap (s1 + (IntKind.i64.wrap (1 - ((y24).1))))) then (IntKind.i64.wrap (s1 + (IntKind.i64.wrap (1 - ((y24).1))))) else s2), IntKind.i64.wrap (s3 + 1)) (fun _ => 0) hm)
            · simp only [hc88, ls]
              conv => lhs; whnf
              have hq := Option.some.inj hm; clear hm; subst hq
              refine (hK8 _ _).trans ?_
              refine Eq.trans ?_ (Eq.symm (show _ = some _ from hr10))
              conv => lhs; whnf
              try simp only [ls]
              exact fq (y := some (AV.tup [AV.int .i64 ((-1)), AV.int .i64 ((-1))], []))
        | c9 y25 =>
          dsimp only at hm
          have hk15 : call false 37 [AV.int .i64 (x13.op)] [] = some (AV.tup [AV.agg [AV.int .i64 ((y25).1), AV.func 51 [] []], AV.bool ((y25).2)], []) := (hc _ _ _).trans (ok_code_of n x13.op (.c9 y25) hy14)
          try simp only [List.drop_zero, ls]
          first | simp only [hk15] | rewrite [hk15]
          try simp only [ls]
          conv => lhs; whnf
          refine bif_or2 hm ?_ ?_ <;> clear hm <;> intro hc90 hm
          · simp only [hc90, ls]
            conv => lhs; whnf
            refine bif_or2 hm ?_ ?_ <;> clear hm <;> intro hc91 hm
            · simp only [hc91, ls]
              conv => lhs; whnf
              refine bif_or2 hm ?_ ?_ <;> clear hm <;> intro hc92 hm
              · simp only [hc92, ls]
                conv => lhs; whnf
                have hq := Option.some.inj hm; clear hm; subst hq
                refine (hK8 _ _).trans ?_
                refine Eq.trans ?_ (Eq.symm (show _ = some _ from hr10))
                conv => lhs; whnf
                try simp only [ls]
                exact fq (y := some (AV.tup [AV.int .i64 ((-1)), AV.int .i64 ((-1))], []))
              · simp only [hc92, ls]
                conv => lhs; whnf
                exact cq (hcont9 (IntKind.i64.wrap (s1 + (IntKind.i64.wrap (1 - ((y25).1)))), (if s2 < (IntKind.i64.wrap (s1 + (IntKind.i64.wrap (1 - ((y25).1))))) then (IntKind.i64.wrap (s1 + (IntKind.i64.wrap (1 - ((y25).1))))) else s2), IntKind.i64.wrap (s3 + 1)) (fun _ => 0) hm)
            · simp only [hc91, ls]
              conv => lhs; whnf
              refine bif_or2 hm ?_ ?_ <;> clear hm <;> intro hc93 hm
              · simp only [hc93, ls]
                conv => lhs; whnf
                refine bif_or2 hm ?_ ?_ <;> clear hm <;> intro hc94 hm
                · simp only [hc94, ls]
                  conv => lhs; whnf
                  have hq := Option.some.inj hm; clear hm; subst hq
                  refine (hK8 _ _).trans ?_
                  refine Eq.trans ?_ (Eq.symm (show _ = some _ from hr10))
                  conv => lhs; whnf
                  try simp only [ls]
                  exact fq (y := some (AV.tup [AV.int .i64 ((-1)), AV.int .i64 ((-1))], []))
                · simp only [hc94, ls]
                  conv => lhs; whnf
                  exact cq (hcont9 (IntKind.i64.wrap (s1 + (IntKind.i64.wrap (1 - ((y25).1)))), (if s2 < (IntKind.i64.wrap (s1 + (IntKind.i64.wrap (1 - ((y25).1))))) then (IntKind.i64.wrap (s1 + (IntKind.i64.wrap (1 - ((y25).1))))) else s2), IntKind.i64.wrap (s3 + 1)) (fun _ => 0) hm)
              · simp only [hc93, ls]
                conv => lhs; whnf
                have hq := Option.some.inj hm; clear hm; subst hq
                refine (hK8 _ _).trans ?_
                refine Eq.trans ?_ (Eq.symm (show _ = some _ from hr10))
                conv => lhs; whnf
                try simp only [ls]
                exact fq (y := some (AV.tup [AV.int .i64 ((-1)), AV.int .i64 ((-1))], []))
          · simp only [hc90, ls]
            conv => lhs; whnf
            refine bif_or2 hm ?_ ?_ <;> clear hm <;> intro hc95 hm
            · simp only [hc95, ls]
              conv => lhs; whnf
              refine bif_or2 hm ?_ ?_ <;> clear hm <;> intro hc96 hm
              · simp only [hc96, ls]
                conv => lhs; whnf
                have hq := Option.some.inj hm; clear hm; subst hq
                refine (hK8 _ _).trans ?_
                refine Eq.trans ?_ (Eq.symm (show _ = some _ from hr10))
                conv => lhs; whnf
                try simp only [ls]
                exact fq (y := some (AV.tup [AV.int .i64 ((-1)), AV.int .i64 ((-1))], []))
              · simp only [hc96, ls]
                conv => lhs; whnf
                exact cq (hcont9 (IntKind.i64.wrap (s1 + (IntKind.i64.wrap (1 - ((y25).1)))), (if s2 < (IntKind.i64.wrap (s1 + (IntKind.i64.wrap (1 - ((y25).1))))) then (IntKind.i64.wrap (s1 + (IntKind.i64.wrap (1 - ((y25).1))))) else s2), IntKind.i64.wrap (s3 + 1)) (fun _ => 0) hm)
            · simp only [hc95, ls]
              conv => lhs; whnf
              have hq := Option.some.inj hm; clear hm; subst hq
              refine (hK8 _ _).trans ?_
              refine Eq.trans ?_ (Eq.symm (show _ = some _ from hr10))
              conv => lhs; whnf
              try simp only [ls]
              exact fq (y := some (AV.tup [AV.int .i64 ((-1)), AV.int .i64 ((-1))], []))
        | c10 y26 =>
          dsimp only at hm
          have hk15 : call false 37 [AV.int .i64 (x13.op)] [] = some (AV.tup [AV.agg [AV.int .i64 ((y26).1), AV.func 49 [] []], AV.bool ((y26).2)], []) := (hc _ _ _).trans (ok_code_of n x13.op (.c10 y26) hy14)
          try simp only [List.drop_zero, ls]
          first | simp only [hk15] | rewrite [hk15]
          try simp only [ls]
          conv => lhs; whnf
          refine bif_or2 hm ?_ ?_ <;> clear hm <;> intro hc97 hm
          · simp only [hc97, ls]
            conv => lhs; whnf
            refine bif_or2 hm ?_ ?_ <;> clear hm <;> intro hc98 hm
            · simp only [hc98, ls]
              conv => lhs; whnf
              refine bif_or2 hm ?_ ?_ <;> clear hm <;> intro hc99 hm
              · simp only [hc99, ls]
                conv => lhs; whnf
                have hq := Option.some.inj hm; clear hm; subst hq
                refine (hK8 _ _).trans ?_
                refine Eq.trans ?_ (Eq.symm (show _ = some _ from hr10))
                conv => lhs; whnf
                try simp only [ls]
                exact fq (y := some (AV.tup [AV.int .i64 ((-1)), AV.int .i64 ((-1))], []))
              · simp only [hc99, ls]
                conv => lhs; whnf
                exact cq (hcont9 (IntKind.i64.wrap (s1 + (IntKind.i64.wrap (1 - ((y26).1)))), (if s2 < (IntKind.i64.wrap (s1 + (IntKind.i64.wrap (1 - ((y26).1))))) then (IntKind.i64.wrap (s1 + (IntKind.i64.wrap (1 - ((y26).1))))) else s2), IntKind.i64.wrap (s3 + 1)) (fun _ => 0) hm)
            · simp only [hc98, ls]
              conv => lhs; whnf
              refine bif_or2 hm ?_ ?_ <;> clear hm <;> intro hc100 hm
              · simp only [hc100, ls]
                conv => lhs; whnf
                refine bif_or2 hm ?_ ?_ <;> clear hm <;> intro hc101 hm
                · simp only [hc101, ls]
                  conv => lhs; whnf
                  have hq := Option.some.inj hm; clear hm; subst hq
                  refine (hK8 _ _).trans ?_
                  refine Eq.trans ?_ (Eq.symm (show _ = some _ from hr10))
                  conv => lhs; whnf
                  try simp only [ls]
                  exact fq (y := some (AV.tup [AV.int .i64 ((-1)), AV.int .i64 ((-1))], []))
                · simp only [hc101, ls]
                  conv => lhs; whnf
                  exact cq (hcont9 (IntKind.i64.wrap (s1 + (IntKind.i64.wrap (1 - ((y26).1)))), (if s2 < (IntKind.i64.wrap (s1 + (IntKind.i64.wrap (1 - ((y26).1))))) then (IntKind.i64.wrap (s1 + (IntKind.i64.wrap (1 - ((y26).1))))) else s2), IntKind.i64.wrap (s3 + 1)) (fun _ => 0) hm)
              · simp only [hc100, ls]
                conv => lhs; whnf
                have hq := Option.some.inj hm; clear hm; subst hq
                refine (hK8 _ _).trans ?_
                refine Eq.trans ?_ (Eq.symm (show _ = some _ from hr10))
                conv => lhs; whnf
                try simp only [ls]
                exact fq (y := some (AV.tup [AV.int .i64 ((-1)), AV.int .i64 ((-1))], []))
          · simp only [hc97, ls]
            conv => lhs; whnf
            refine bif_or2 hm ?_ ?_ <;> clear hm <;> intro hc102 hm
            · simp only [hc102, ls]
              conv => lhs; whnf
              refine bif_or2 hm ?_ ?_ <;> clear hm <;> intro hc103 hm
              · simp only [hc103, ls]
                conv => lhs; whnf
                have hq := Option.some.inj hm; clear hm; subst hq
                refine (hK8 _ _).trans ?_
                refine Eq.trans ?_ (Eq.symm (show _ = some _ from hr10))
                conv => lhs; whnf
                try simp only [ls]
                exact fq (y := some (AV.tup [AV.int .i64 ((-1)), AV.int .i64 ((-1))], []))
              · simp only [hc103, ls]
                conv => lhs; whnf
                exact cq (hcont9 (IntKind.i64.wrap (s1 + (IntKind.i64.wrap (1 - ((y26).1)))), (if s2 < (IntKind.i64.wrap (s1 + (IntKind.i64.wrap (1 - ((y26).1))))) then (IntKind.i64.wrap (s1 + (IntKind.i64.wrap (1 - ((y26).1))))) else s2), IntKind.i64.wrap (s3 + 1)) (fun _ => 0) hm)
            · simp only [hc102, ls]
              conv => lhs; whnf
              have hq := Option.some.inj hm; clear hm; subst hq
              refine (hK8 _ _).trans ?_
              refine Eq.trans ?_ (Eq.symm (show _ = some _ from hr10))
              conv => lhs; whnf
              try simp only [ls]
              exact fq (y := some (AV.tup [AV.int .i64 ((-1)), AV.int .i64 ((-1))], []))
      · simp only [hc12, ls]
        conv => lhs; whnf
        have hq := Option.some.inj hm; clear hm; subst hq
        exact kq (hr10 (fun _ => 0))
    · cases o11 with
      | ret v =>
        have hq := Option.some.inj hm; clear hm; subst hq
        rfl
      | out t =>
        obtain ⟨x105, x106⟩ := t
        intro a104
        dsimp only at hm
        conv => lhs; whnf
        have hq := Option.some.inj hm; clear hm; subst hq
        try simp only [ls]
        exact fq (y := some (AV.tup [AV.int .i64 (x105), AV.int .i64 (x106)], []))

set_option maxHeartbeats 4000000 in
theorem ok_code_Depth (n : Nat) : ∀ (v0_l : (List OpS)) (r : Int), m_code_Depth n v0_l = some r → callN Try.prog HH XT n 19 [AV.sl 3 (List.map encOp (v0_l))] [] = some (AV.int .i64 (r), []) := by
  cases n with
  | zero => intro v0_l r hm; exact absurd hm (by intro h; cases h)
  | succ n =>
    intro v0_l r hm
    rw [m_code_Depth] at hm
    refine callN_eq' Try.func19 (by rfl) rfl rfl (Nat.le_of_ble_eq_true rfl) ?_
    intro call hc
    conv => lhs; whnf
    refine bind_some2 hm ?_; clear hm; intro y1 hy1 hm
    have hk2 : call false 41 [AV.sl 3 (List.map encOp (v0_l))] [] = some (AV.tup [AV.int .i64 ((y1).1), AV.int .i64 ((y1).2)], []) := (hc _ _ _).trans (ok_code_lies n v0_l y1 hy1)
    try simp only [List.drop_zero, ls]
    first | simp only [hk2] | rewrite [hk2]
    try simp only [ls]
    conv => lhs; whnf
    have hq := Option.some.inj hm; clear hm; subst hq
    try simp only [ls]
    exact fq (y := some (AV.int .i64 ((y1).2), []))
end Go.Proofs.Ytmnnkeejgkhgpaa
end

section
namespace Go.Proofs.Ytmnnkeejgkhgpaa
set_option linter.unusedVariables false
set_option linter.unusedSimpArgs false
set_option maxRecDepth 100000

set_option maxHeartbeats 4000000 in
theorem ok_code_Right (n : Nat) : ∀ (v0_l : (List OpS)) (v1_regs : (List Int)) (v2_own : Int) (v3_locs : Int) (r : Bool), m_code_Right n v0_l v1_regs v2_own v3_locs = some r → callN Try.prog HH XT n 21 [AV.sl 3 (List.map encOp (v0_l)), AV.sl 1 (List.map encI (v1_regs)), AV.int .i64 (v2_own), AV.int .i64 (v3_locs)] [] = some (AV.bool (r), []) := by
  cases n with
  | zero => intro v0_l v1_regs v2_own v3_locs r hm; exact absurd hm (by intro h; cases h)
  | succ n =>
    intro v0_l v1_regs v2_own v3_locs r hm
    rw [m_code_Right] at hm
    refine callN_eq' Try.func21 (by rfl) rfl rfl (Nat.le_of_ble_eq_true rfl) ?_
    intro call hc
    conv => lhs; whnf
    refine bind_some2 hm ?_; clear hm; intro o9 ho9 hm
    refine rounds_sim (σ := Int) (τ := Unit) (ν := Bool) 0 (fun s1 a3 => stOf 64 [(0, AV.sl 3 (List.map encOp (v0_l))), (1, AV.sl 1 (List.map encI (v1_regs))), (2, AV.int .i64 (v2_own)), (3, AV.int .i64 (v3_locs)), (14, AV.sl 3 (List.map encOp (v0_l))), (15, AV.int .i64 ((((v0_l).length : Nat) : Int))), (16, AV.int .i64 (s1))]) (fun s1 a3 => []) (fun _ a31 => stOf 64 [(0, AV.sl 3 (List.map encOp (v0_l)))]) (fun _ a31 => []) (fun v => (AV.bool (v), [])) (fun k s => code_Right_L0 n v0_l v1_regs v2_own v3_locs k s) (fun s => rfl) o9 ?_ n 0 (fun _ => 0) _ _ ho9 ?_ (by first | rfl | (simp only [ls, List.map_append, List.map_cons, List.map_nil, List.append_nil, List.length_set, length_copyL] <;> rfl)) (by first | rfl | (simp only [ls, List.map_append, List.map_cons, List.map_nil, List.append_nil, List.length_set, length_copyL] <;> rfl))
    · intro k2 ss a3 K4 cont5 hK6 hcont7 hm hr8
      obtain ⟨s1, rfl⟩ : ∃ x, x = ss := ⟨_, rfl⟩
      replace hm : code_Right_L0 n v0_l v1_regs v2_own v3_locs (k2 + 1) s1 = some o9 := hm
      rw [code_Right_L0] at hm
      conv => lhs; whnf
      refine bif_or2 hm ?_ ?_ <;> clear hm <;> intro hc10 hm
      · simp only [hc10, ls]
        conv => lhs; whnf
        refine bind_some2 hm ?_; clear hm; intro x11 hx11 hm
        refine bif_pos (by first | exact idx_in hx11 | exact idx_in' hx11) ?_
        simp only [idx_nth (f := encOp) hx11, ls]
        conv => lhs; whnf
        refine bif_or2 hm ?_ ?_ <;> clear hm <;> intro hc12 hm
        · simp only [hc12, ls]
          conv => lhs; whnf
          refine bif_or2 hm ?_ ?_ <;> clear hm <;> intro hc13 hm
          · simp only [hc13, ls]
            conv => lhs; whnf
            have hq := Option.some.inj hm; clear hm; subst hq
            refine (hK6 _ _).trans ?_
            refine Eq.trans ?_ (Eq.symm (show _ = some _ from hr8))
            conv => lhs; whnf
            try simp only [ls]
            exact fq (y := some (AV.bool (false), []))
          · simp only [hc13, ls]
            conv => lhs; whnf
            refine bif_or2 hm ?_ ?_ <;> clear hm <;> intro hc14 hm
            · simp only [hc14, ls]
              conv => lhs; whnf
              have hq := Option.some.inj hm; clear hm; subst hq
              refine (hK6 _ _).trans ?_
              refine Eq.trans ?_ (Eq.symm (show _ = some _ from hr8))
              conv => lhs; whnf
              try simp only [ls]
              exact fq (y := some (AV.bool (false), []))
            · simp only [hc14, ls]
              conv => lhs; whnf
              exact cq (hcont7 (IntKind.i64.wrap (s1 + 1)) (fun _ => 0) hm)
        · simp only [hc12, ls]
          conv => lhs; whnf
          refine bif_or2 hm ?_ ?_ <;> clear hm <;> intro hc15 hm
          · simp only [hc15, ls]
            conv => lhs; whnf
            refine bif_or2 hm ?_ ?_ <;> clear hm <;> intro hc16 hm
            · simp only [hc16, ls]
              conv => lhs; whnf
              have hq := Option.some.inj hm; clear hm; subst hq
              refine (hK6 _ _).trans ?_
              refine Eq.trans ?_ (Eq.symm (show _ = some _ from hr8))
              conv => lhs; whnf
              try simp only [ls]
              exact fq (y := some (AV.bool (false), []))
            · simp only [hc16, ls]
              conv => lhs; whnf
              refine bif_or2 hm ?_ ?_ <;> clear hm <;> intro hc17 hm
              · simp only [hc17, ls]
                conv => lhs; whnf
                have hq := Option.some.inj hm; clear hm; subst hq
                refine (hK6 _ _).trans ?_
                refine Eq.trans ?_ (Eq.symm (show _ = some _ from hr8))
                conv => lhs; whnf
                try simp only [ls]
                exact fq (y := some (AV.bool (false), []))
              · simp only [hc17, ls]
                conv => lhs; whnf
                exact cq (hcont7 (IntKind.i64.wrap (s1 + 1)) (fun _ => 0) hm)
          · simp only [hc15, ls]
            conv => lhs; whnf
            refine bif_or2 hm ?_ ?_ <;> clear hm <;> intro hc18 hm
            · simp only [hc18, ls]
              conv => lhs; whnf
              refine bif_or2 hm ?_ ?_ <;> clear hm <;> intro hc19 hm
              · simp only [hc19, ls]
                conv => lhs; whnf
                have hq := Option.some.inj hm; clear hm; subst hq
                refine (hK6 _ _).trans ?_
                refine Eq.trans ?_ (Eq.symm (show _ = some _ from hr8))
                conv => lhs; whnf
                try simp only [ls]
                exact fq (y := some (AV.bool (false), []))
              · simp only [hc19, ls]
                conv => lhs; whnf
                refine bif_or2 hm ?_ ?_ <;> clear hm <;> intro hc20 hm
                · simp only [hc20, ls]
                  conv => lhs; whnf
                  have hq := Option.some.inj hm; clear hm; subst hq
                  refine (hK6 _ _).trans ?_
                  refine Eq.trans ?_ (Eq.symm (show _ = some _ from hr8))
                  conv => lhs; whnf
                  try simp only [ls]
                  exact fq (y := some (AV.bool (false), []))
                · simp only [hc20, ls]
                  conv => lhs; whnf
                  exact cq (hcont7 (IntKind.i64.wrap (s1 + 1)) (fun _ => 0) hm)
            · simp only [hc18, ls]
              conv => lhs; whnf
              refine bif_or2 hm ?_ ?_ <;> clear hm <;> intro hc21 hm
              · simp only [hc21, ls]
                conv => lhs; whnf
                refine bif_or2 hm ?_ ?_ <;> clear hm <;> intro hc22 hm
                · simp only [hc22, ls]
                  conv => lhs; whnf
                  refine bif_or2 hm ?_ ?_ <;> clear hm <;> intro hc23 hm
                  · simp only [hc23, ls]
                    conv => lhs; whnf
                    refine bind_some2 hm ?_; clear hm; intro x24 hx24 hm
                    refine bif_pos (by first | exact idx_in hx24 | exact idx_in' hx24) ?_
                    simp only [idx_nth (f := encI) hx24, ls]
                    conv => lhs; whnf
                    refine bif_or2 hm ?_ ?_ <;> clear hm <;> intro hc25 hm
                    · simp only [hc25, ls]
                      conv => lhs; whnf
                      have hq := Option.some.inj hm; clear hm; subst hq
                      refine (hK6 _ _).trans ?_
                      refine Eq.trans ?_ (Eq.symm (show _ = some _ from hr8))
                      conv => lhs; whnf
                      try simp only [ls]
                      exact fq (y := some (AV.bool (false), []))
                    · simp only [hc25, ls]
                      conv => lhs; whnf
                      refine bif_or2 hm ?_ ?_ <;> clear hm <;> intro hc26 hm
                      · simp only [hc26, ls]
                        conv => lhs; whnf
                        have hq := Option.some.inj hm; clear hm; subst hq
                        refine (hK6 _ _).trans ?_
                        refine Eq.trans ?_ (Eq.symm (show _ = some _ from hr8))
                        conv => lhs; whnf
                        try simp only [ls]
                        exact fq (y := some (AV.bool (false), []))
                      · simp only [hc26, ls]
                        conv => lhs; whnf
                        exact cq (hcont7 (IntKind.i64.wrap (s1 + 1)) (fun _ => 0) hm)
                  · simp only [hc23, ls]
                    conv => lhs; whnf
                    refine bif_or2 hm ?_ ?_ <;> clear hm <;> intro hc27 hm
                    · simp only [hc27, ls]
                      conv => lhs; whnf
                      have hq := Option.some.inj hm; clear hm; subst hq
                      refine (hK6 _ _).trans ?_
                      refine Eq.trans ?_ (Eq.symm (show _ = some _ from hr8))
                      conv => lhs; whnf
                      try simp only [ls]
                      exact fq (y := some (AV.bool (false), []))
                    · simp only [hc27, ls]
                      conv => lhs; whnf
                      refine bif_or2 hm ?_ ?_ <;> clear hm <;> intro hc28 hm
                      · simp only [hc28, ls]
                        conv => lhs; whnf
                        have hq := Option.some.inj hm; clear hm; subst hq
                        refine (hK6 _ _).trans ?_
                        refine Eq.trans ?_ (Eq.symm (show _ = some _ from hr8))
                        conv => lhs; whnf
                        try simp only [ls]
                        exact fq (y := some (AV.bool (false), []))
                      · simp only [hc28, ls]
                        conv => lhs; whnf
                        exact cq (hcont7 (IntKind.i64.wrap (s1 + 1)) (fun _ => 0) hm)
                · simp only [hc22, ls]
                  conv => lhs; whnf
                  refine bif_or2 hm ?_ ?_ <;> clear hm <;> intro hc29 hm
                  · simp only [hc29, ls]
                    conv => lhs; whnf
                    have hq := Option.some.inj hm; clear hm; subst hq
                    refine (hK6 _ _).trans ?_
                    refine Eq.trans ?_ (Eq.symm (show _ = some _ from hr8))
                    conv => lhs; whnf
                    try simp only [ls]
                    exact fq (y := some (AV.bool (false), []))
                  · simp only [hc29, ls]
                    conv => lhs; whnf
                    refine bif_or2 hm ?_ ?_ <;> clear hm <;> intro hc30 hm
                    · simp only [hc30, ls]
                      conv => lhs; whnf
                      have hq := Option.some.inj hm; clear hm; subst hq
                      refine (hK6 _ _).trans ?_
                      refine Eq.trans ?_ (Eq.symm (show _ = some _ from hr8))
                      conv => lhs; whnf
                      try simp only [ls]
                      exact fq (y := some (AV.bool (false), []))
                    · simp only [hc30, ls]
                      conv => lhs; whnf
                      exact cq (hcont7 (IntKind.i64.wrap (s1 + 1)) (fun _ => 0) hm)
              · simp only [hc21, ls]
                conv => lhs; whnf
                exact cq (hcont7 (IntKind.i64.wrap (s1 + 1)) (fun _ => 0) hm)
      · simp only [hc10, ls]
        conv => lhs; whnf
        have hq := Option.some.inj hm; clear hm; subst hq
        exact kq (hr8 (fun _ => 0))
    · cases o9 with
      | ret v =>
        have hq := Option.some.inj hm; clear hm; subst hq
        rfl
      | out t =>
        intro a31
        dsimp only at hm
        conv => lhs; whnf
        refine bind_some2 hm ?_; clear hm; intro y32 hy32 hm
        have hk33 : call false 41 [AV.sl 3 (List.map encOp (v0_l))] [] = some (AV.tup [AV.int .i64 ((y32).1), AV.int .i64 ((y32).2)], []) := (hc _ _ _).trans (ok_code_lies n v0_l y32 hy32)
        try simp only [List.drop_zero, ls]
        first | simp only [hk33] | rewrite [hk33]
        try simp only [ls]
        conv => lhs; whnf
        have hq := Option.some.inj hm; clear hm; subst hq
        try simp only [ls]
        exact fq (y := some (AV.bool ((((y32).1) == 1)), []))

end Go.Proofs.Ytmnnkeejgkhgpaa
end

section
namespace Go.Proofs.Ytmnnkeejgkhgpaa
set_option linter.unusedVariables false
set_option linter.unusedSimpArgs false
set_option maxRecDepth 100000

set_option maxHeartbeats 4000000 in
theorem ok_code_below (n : Nat) : ∀ (v0_mod : Int) (v1_lists : (List (List Int))) (r : Bool), m_code_below n v0_mod v1_lists = some r → callN Try.prog HH XT n 36 [AV.int .i64 (v0_mod), AV.sl 1 (List.map encRow (v1_lists))] [] = some (AV.bool (r), []) := by
  cases n with
  | zero => intro v0_mod v1_lists r hm; exact absurd hm (by intro h; cases h)
  | succ n =>
    intro v0_mod v1_lists r hm
    rw [m_code_below] at hm
    refine callN_eq' Try.func36 (by rfl) rfl rfl (Nat.le_of_ble_eq_true rfl) ?_
    intro call hc
    conv => lhs; whnf
    refine bind_some2 hm ?_; clear hm; intro o9 ho9 hm
    refine rounds_sim (σ := Int) (τ := Unit) (ν := Bool) 0 (fun s1 a3 => stOf 30 [(0, AV.int .i64 (v0_mod)), (9, AV.sl 1 (List.map encRow (v1_lists))), (10, AV.int .i64 ((((v1_lists).length : Nat) : Int))), (11, AV.int .i64 (s1))]) (fun s1 a3 => []) (fun _ a27 => stOf 30 []) (fun _ a27 => []) (fun v => (AV.bool (v), [])) (fun k s => code_below_L0 n v0_mod v1_lists k s) (fun s => rfl) o9 ?_ n 0 (fun _ => 0) _ _ ho9 ?_ (by first | rfl | (simp only [ls, List.map_append, List.map_cons, List.map_nil, List.append_nil, List.length_set, length_copyL] <;> rfl)) (by first | rfl | (simp only [ls, List.map_append, List.map_cons, List.map_nil, List.append_nil, List.length_set, length_copyL] <;> rfl))
    · intro k2 ss a3 K4 cont5 hK6 hcont7 hm hr8
      obtain ⟨s1, rfl⟩ : ∃ x, x = ss := ⟨_, rfl⟩
      replace hm : code_below_L0 n v0_mod v1_lists (k2 + 1) s1 = some o9 := hm
      rw [code_below_L0] at hm
      conv => lhs; whnf
      refine bif_or2 hm ?_ ?_ <;> clear hm <;> intro hc10 hm
      · simp only [hc10, ls]
        conv => lhs; whnf
        refine bind_some2 hm ?_; clear hm; intro x11 hx11 hm
        refine bif_pos (by first | exact idx_in hx11 | exact idx_in' hx11) ?_
        simp only [idx_nth (f := encRow) hx11, ls]
        conv => lhs; whnf
        refine bind_some2 hm ?_; clear hm; intro o20 ho20 hm
        refine rounds_sim (σ := Int) (τ := Unit) (ν := Bool) 2 (fun s12 a14 => stOf 30 [(0, AV.int .i64 (v0_mod)), (9, AV.sl 1 (List.map encRow (v1_lists))), (10, AV.int .i64 ((((v1_lists).length : Nat) : Int))), (11, AV.int .i64 (s1)), (15, AV.sl 1 (List.map encI (x11))), (16, AV.int .i64 ((((x11).length : Nat) : Int))), (17, AV.int .i64 (s12))]) (fun s12 a14 => []) (fun _ a25 => stOf 30 [(0, AV.int .i64 (v0_mod)), (9, AV.sl 1 (List.map encRow (v1_lists))), (10, AV.int .i64 ((((v1_lists).length : Nat) : Int))), (11, AV.int .i64 (s1))]) (fun _ a25 => []) (fun v => (AV.bool (v), [])) (fun k s => code_below_L1 n v0_mod x11 k s) (fun s => rfl) o20 ?_ n 0 (fun _ => 0) _ _ ho20 ?_ (by first | rfl | (simp only [ls, List.map_append, List.map_cons, List.map_nil, List.append_nil, List.length_set, length_copyL] <;> rfl)) (by first | rfl | (simp only [ls, List.map_append, List.map_cons, List.map_nil, List.append_nil, List.length_set, length_copyL] <;> rfl))
        · intro k13 ss a14 K15 cont16 hK17 hcont18 hm hr19
          obtain ⟨s12, rfl⟩ : ∃ x, x = ss := ⟨_, rfl⟩
          replace hm : code_below_L1 n v0_mod x11 (k13 + 1) s12 = some o20 := hm
          rw [code_below_L1] at hm
          conv => lhs; whnf
          refine bif_or2 hm ?_ ?_ <;> clear hm <;> intro hc21 hm
          · simp only [hc21, ls]
            conv => lhs; whnf
            refine bind_some2 hm ?_; clear hm; intro x22 hx22 hm
            refine bif_pos (by first | exact idx_in hx22 | exact idx_in' hx22) ?_
            simp only [idx_nth (f := encI) hx22, ls]
            conv => lhs; whnf
            refine bif_or2 hm ?_ ?_ <;> clear hm <;> intro hc23 hm
            · simp only [hc23, ls]
              conv => lhs; whnf
              have hq := Option.some.inj hm; clear hm; subst hq
              refine (hK17 _ _).trans ?_
              conv => lhs; whnf
              refine (hK6 _ _).trans ?_
              refine Eq.trans ?_ (Eq.symm (show _ = some _ from hr19))
              conv => lhs; whnf
              try simp only [ls]
              exact fq (y := some (AV.bool (false), []))
            · simp only [hc23, ls]
              conv => lhs; whnf
              refine bif_or2 hm ?_ ?_ <;> clear hm <;> intro hc24 hm
              · simp only [hc24, ls]
                conv => lhs; whnf
                have hq := Option.some.inj hm; clear hm; subst hq
                refine (hK17 _ _).trans ?_
                conv => lhs; whnf
                refine (hK6 _ _).trans ?_
                refine Eq.trans ?_ (Eq.symm (show _ = some _ from hr19))
                conv => lhs; whnf
                try simp only [ls]
                exact fq (y := some (AV.bool (false), []))
              · simp only [hc24, ls]
                conv => lhs; whnf
                exact cq (hcont18 (IntKind.i64.wrap (s12 + 1)) (fun _ => 0) hm)
          · simp only [hc21, ls]
            conv => lhs; whnf
            have hq := Option.some.inj hm; clear hm; subst hq
            exact kq (hr19 (fun _ => 0))
        · cases o20 with
          | ret v =>
            have hq := Option.some.inj hm; clear hm; subst hq
            exact hr8
          | out t =>
            intro a25
            dsimp only at hm
            conv => lhs; whnf
            exact cq (hcont7 (IntKind.i64.wrap (s1 + 1)) (fun _ => 0) hm)
      · simp only [hc10, ls]
        conv => lhs; whnf
        have hq := Option.some.inj hm; clear hm; subst hq
        exact kq (hr8 (fun _ => 0))
    · cases o9 with
      | ret v =>
        have hq := Option.some.inj hm; clear hm; subst hq
        rfl
      | out t =>
        intro a27
        dsimp only at hm
        conv => lhs; whnf
        have hq := Option.some.inj hm; clear hm; subst hq
        try simp only [ls]
        exact fq (y := some (AV.bool (true), []))

set_option maxHeartbeats 4000000 in
theorem ok_code_truth (n : Nat) : ∀ (v0_is : Bool) (r : Int), m_code_truth n v0_is = some r → callN Try.prog HH XT n 50 [AV.bool (v0_is)] [] = some (AV.int .i64 (r), []) := by
  cases n with
  | zero => intro v0_is r hm; exact absurd hm (by intro h; cases h)
  | succ n =>
    intro v0_is r hm
    rw [m_code_truth] at hm
    refine callN_eq' Try.func50 (by rfl) rfl rfl (Nat.le_of_ble_eq_true rfl) ?_
    intro call hc
    conv => lhs; whnf
    refine bif_or2 hm ?_ ?_ <;> clear hm <;> intro hc1 hm
    · simp only [hc1, ls]
      conv => lhs; whnf
      have hq := Option.some.inj hm; clear hm; subst hq
      try simp only [ls]
      exact fq (y := some (AV.int .i64 (1), []))
    · simp only [hc1, ls]
      conv => lhs; whnf
      have hq := Option.some.inj hm; clear hm; subst hq
      try simp only [ls]
      exact fq (y := some (AV.int .i64 (0), []))

set_option maxHeartbeats 4000000 in
theorem ok_code_of_1 (n : Nat) : ∀ (v0_ : Int) (v1_b : Int) (v2_ : Int) (r : Int), m_code_of_1 n v0_ v1_b v2_ = some r → callN Try.prog HH XT n 49 [AV.int .i64 (v0_), AV.int .i64 (v1_b), AV.int .i64 (v2_)] [] = some (AV.int .i64 (r), []) := by
  cases n with
  | zero => intro v0_ v1_b v2_ r hm; exact absurd hm (by intro h; cases h)
  | succ n =>
    intro v0_ v1_b v2_ r hm
    rw [m_code_of_1] at hm
    refine callN_eq' Try.func49 (by rfl) rfl rfl (Nat.le_of_ble_eq_true rfl) ?_
    intro call hc
    conv => lhs; whnf
    refine bind_some2 hm ?_; clear hm; intro y1 hy1 hm
    have hk2 : call false 50 [AV.bool ((v1_b == 0))] [] = some (AV.int .i64 (y1), []) := (hc _ _ _).trans (ok_code_truth n (v1_b == 0) y1 hy1)
    try simp only [List.drop_zero, ls]
    first | simp only [hk2] | rewrite [hk2]
    try simp only [ls]
    conv => lhs; whnf
    have hq := Option.some.inj hm; clear hm; subst hq
    try simp only [ls]
    exact fq (y := some (AV.int .i64 (y1), []))

set_option maxHeartbeats 4000000 in
theorem ok_code_of_10 (n : Nat) : ∀ (v0_a : Int) (v1_b : Int) (v2_ : Int) (r : Int), m_code_of_10 n v0_a v1_b v2_ = some r → callN Try.prog HH XT n 59 [AV.int .i64 (v0_a), AV.int .i64 (v1_b), AV.int .i64 (v2_)] [] = some (AV.int .i64 (r), []) := by
  cases n with
  | zero => intro v0_a v1_b v2_ r hm; exact absurd hm (by intro h; cases h)
  | succ n =>
    intro v0_a v1_b v2_ r hm
    rw [m_code_of_10] at hm
    refine callN_eq' Try.func59 (by rfl) rfl rfl (Nat.le_of_ble_eq_true rfl) ?_
    intro call hc
    conv => lhs; whnf
    refine bind_some2 hm ?_; clear hm; intro y1 hy1 hm
    have hk2 : call false 50 [AV.bool (((IntKind.i64.wrap (v0_a + v1_b)) != 0))] [] = some (AV.int .i64 (y1), []) := (hc _ _ _).trans (ok_code_truth n ((IntKind.i64.wrap (v0_a + v1_b)) != 0) y1 hy1)
    try simp only [List.drop_zero, ls]
    first | simp only [hk2] | rewrite [hk2]
    try simp only [ls]
    conv => lhs; whnf
    have hq := Option.some.inj hm; clear hm; subst hq
    try simp only [ls]
    exact fq (y := some (AV.int .i64 (y1), []))

set_option maxHeartbeats 4000000 in
theorem ok_code_of_2 (n : Nat) : ∀ (v0_a : Int) (v1_b : Int) (v2_mod : Int) (r : Int), m_code_of_2 n v0_a v1_b v2_mod = some r → callN Try.prog HH XT n 51 [AV.int .i64 (v0_a), AV.int .i64 (v1_b), AV.int .i64 (v2_mod)] [] = some (AV.int .i64 (r), []) := by
  cases n with
  | zero => intro v0_a v1_b v2_mod r hm; exact absurd hm (by intro h; cases h)
  | succ n =>
    intro v0_a v1_b v2_mod r hm
    rw [m_code_of_2] at hm
    refine callN_eq' Try.func51 (by rfl) rfl rfl (Nat.le_of_ble_eq_true rfl) ?_
    intro call hc
    conv => lhs; whnf
    refine bif_or2 hm ?_ ?_ <;> clear hm <;> intro hc1 hm
    · cases hm
    · simp only [hc1, ls]
      conv => lhs; whnf
      have hq := Option.some.inj hm; clear hm; subst hq
      try simp only [ls]
      exact fq (y := some (AV.int .i64 ((Int.tmod (IntKind.i64.wrap (v0_a + v1_b)) v2_mod)), []))

set_option maxHeartbeats 4000000 in
theorem ok_code_of_3 (n : Nat) : ∀ (v0_a : Int) (v1_b : Int) (v2_mod : Int) (r : Int), m_code_of_3 n v0_a v1_b v2_mod = some r → callN Try.prog HH XT n 52 [AV.int .i64 (v0_a), AV.int .i64 (v1_b), AV.int .i64 (v2_mod)] [] = some (AV.int .i64 (r), []) := by
  cases n with
  | zero => intro v0_a v1_b v2_mod r hm; exact absurd hm (by intro h; cases h)
  | succ n =>
    intro v0_a v1_b v2_mod r hm
    rw [m_code_of_3] at hm
    refine callN_eq' Try.func52 (by rfl) rfl rfl (Nat.le_of_ble_eq_true rfl) ?_
    intro call hc
    conv => lhs; whnf
    refine bif_or2 hm ?_ ?_ <;> clear hm <;> intro hc1 hm
    · cases hm
    · simp only [hc1, ls]
      conv => lhs; whnf
      have hq := Option.some.inj hm; clear hm; subst hq
      try simp only [ls]
      exact fq (y := some (AV.int .i64 ((Int.tmod (IntKind.i64.wrap ((IntKind.i64.wrap (v0_a + v2_mod)) - v1_b)) v2_mod)), []))

set_option maxHeartbeats 4000000 in
theorem ok_code_of_4 (n : Nat) : ∀ (v0_a : Int) (v1_b : Int) (v2_mod : Int) (r : Int), m_code_of_4 n v0_a v1_b v2_mod = some r → callN Try.prog HH XT n 53 [AV.int .i64 (v0_a), AV.int .i64 (v1_b), AV.int .i64 (v2_mod)] [] = some (AV.int .i64 (r), []) := by
  cases n with
  | zero => intro v0_a v1_b v2_mod r hm; exact absurd hm (by intro h; cases h)
  | succ n =>
    intro v0_a v1_b v2_mod r hm
    rw [m_code_of_4] at hm
    refine callN_eq' Try.func53 (by rfl) rfl rfl (Nat.le_of_ble_eq_true rfl) ?_
    intro call hc
    conv => lhs; whnf
    refine bif_or2 hm ?_ ?_ <;> clear hm <;> intro hc1 hm
    · cases hm
    · simp only [hc1, ls]
      conv => lhs; whnf
      have hq := Option.some.inj hm; clear hm; subst hq
      try simp only [ls]
      exact fq (y := some (AV.int .i64 ((Int.tmod (IntKind.i64.wrap (v0_a * v1_b)) v2_mod)), []))

set_option maxHeartbeats 4000000 in
theorem ok_code_of_5 (n : Nat) : ∀ (v0_a : Int) (v1_b : Int) (v2_ : Int) (r : Int), m_code_of_5 n v0_a v1_b v2_ = some r → callN Try.prog HH XT n 54 [AV.int .i64 (v0_a), AV.int .i64 (v1_b), AV.int .i64 (v2_)] [] = some (AV.int .i64 (r), []) := by
  cases n with
  | zero => intro v0_a v1_b v2_ r hm; exact absurd hm (by intro h; cases h)
  | succ n =>
    intro v0_a v1_b v2_ r hm
    rw [m_code_of_5] at hm
    refine callN_eq' Try.func54 (by rfl) rfl rfl (Nat.le_of_ble_eq_true rfl) ?_
    intro call hc
    conv => lhs; whnf
    refine bind_some2 hm ?_; clear hm; intro y1 hy1 hm
    have hk2 : call false 50 [AV.bool ((v0_a == v1_b))] [] = some (AV.int .i64 (y1), []) := (hc _ _ _).trans (ok_code_truth n (v0_a == v1_b) y1 hy1)
    try simp only [List.drop_zero, ls]
    first | simp only [hk2] | rewrite [hk2]
    try simp only [ls]
    conv => lhs; whnf
    have hq := Option.some.inj hm; clear hm; subst hq
    try simp only [ls]
    exact fq (y := some (AV.int .i64 (y1), []))

set_option maxHeartbeats 4000000 in
theorem ok_code_of_6 (n : Nat) : ∀ (v0_a : Int) (v1_b : Int) (v2_ : Int) (r : Int), m_code_of_6 n v0_a v1_b v2_ = some r → callN Try.prog HH XT n 55 [AV.int .i64 (v0_a), AV.int .i64 (v1_b), AV.int .i64 (v2_)] [] = some (AV.int .i64 (r), []) := by
  cases n with
  | zero => intro v0_a v1_b v2_ r hm; exact absurd hm (by intro h; cases h)
  | succ n =>
    intro v0_a v1_b v2_ r hm
    rw [m_code_of_6] at hm
    refine callN_eq' Try.func55 (by rfl) rfl rfl (Nat.le_of_ble_eq_true rfl) ?_
    intro call hc
    conv => lhs; whnf
    refine bind_some2 hm ?_; clear hm; intro y1 hy1 hm
    have hk2 : call false 50 [AV.bool ((v0_a != v1_b))] [] = some (AV.int .i64 (y1), []) := (hc _ _ _).trans (ok_code_truth n (v0_a != v1_b) y1 hy1)
    try simp only [List.drop_zero, ls]
    first | simp only [hk2] | rewrite [hk2]
    try simp only [ls]
    conv => lhs; whnf
    have hq := Option.some.inj hm; clear hm; subst hq
    try simp only [ls]
    exact fq (y := some (AV.int .i64 (y1), []))

set_option maxHeartbeats 4000000 in
theorem ok_code_of_7 (n : Nat) : ∀ (v0_a : Int) (v1_b : Int) (v2_ : Int) (r : Int), m_code_of_7 n v0_a v1_b v2_ = some r → callN Try.prog HH XT n 56 [AV.int .i64 (v0_a), AV.int .i64 (v1_b), AV.int .i64 (v2_)] [] = some (AV.int .i64 (r), []) := by
  cases n with
  | zero => intro v0_a v1_b v2_ r hm; exact absurd hm (by intro h; cases h)
  | succ n =>
    intro v0_a v1_b v2_ r hm
    rw [m_code_of_7] at hm
    refine callN_eq' Try.func56 (by rfl) rfl rfl (Nat.le_of_ble_eq_true rfl) ?_
    intro call hc
    conv => lhs; whnf
    refine bind_some2 hm ?_; clear hm; intro y1 hy1 hm
    have hk2 : call false 50 [AV.bool (decide (v0_a < v1_b))] [] = some (AV.int .i64 (y1), []) := (hc _ _ _).trans (ok_code_truth n (decide (v0_a < v1_b)) y1 hy1)
    try simp only [List.drop_zero, ls]
    first | simp only [hk2] | rewrite [hk2]
    try simp only [ls]
    conv => lhs; whnf
    have hq := Option.some.inj hm; clear hm; subst hq
    try simp only [ls]
    exact fq (y := some (AV.int .i64 (y1), []))

set_option maxHeartbeats 4000000 in
theorem ok_code_of_8 (n : Nat) : ∀ (v0_a : Int) (v1_b : Int) (v2_ : Int) (r : Int), m_code_of_8 n v0_a v1_b v2_ = some r → callN Try.prog HH XT n 57 [AV.int .i64 (v0_a), AV.int .i64 (v1_b), AV.int .i64 (v2_)] [] = some (AV.int .i64 (r), []) := by
  cases n with
  | zero => intro v0_a v1_b v2_ r hm; exact absurd hm (by intro h; cases h)
  | succ n =>
    intro v0_a v1_b v2_ r hm
    rw [m_code_of_8] at hm
    refine callN_eq' Try.func57 (by rfl) rfl rfl (Nat.le_of_ble_eq_true rfl) ?_
    intro call hc
    conv => lhs; whnf
    refine bind_some2 hm ?_; clear hm; intro y1 hy1 hm
    have hk2 : call false 50 [AV.bool (decide (v0_a ≤ v1_b))] [] = some (AV.int .i64 (y1), []) := (hc _ _ _).trans (ok_code_truth n (decide (v0_a ≤ v1_b)) y1 hy1)
    try simp only [List.drop_zero, ls]
    first | simp only [hk2] | rewrite [hk2]
    try simp only [ls]
    conv => lhs; whnf
    have hq := Option.some.inj hm; clear hm; subst hq
    try simp only [ls]
    exact fq (y := some (AV.int .i64 (y1), []))

set_option maxHeartbeats 4000000 in
theorem ok_code_of_9 (n : Nat) : ∀ (v0_a : Int) (v1_b : Int) (v2_ : Int) (r : Int), m_code_of_9 n v0_a v1_b v2_ = some r → callN Try.prog HH XT n 58 [AV.int .i64 (v0_a), AV.int .i64 (v1_b), AV.int .i64 (v2_)] [] = some (AV.int .i64 (r), []) := by
  cases n with
  | zero => intro v0_a v1_b v2_ r hm; exact absurd hm (by intro h; cases h)
  | succ n =>
    intro v0_a v1_b v2_ r hm
    rw [m_code_of_9] at hm
    refine callN_eq' Try.func58 (by rfl) rfl rfl (Nat.le_of_ble_eq_true rfl) ?_
    intro call hc
    conv => lhs; whnf
    refine bind_some2 hm ?_; clear hm; intro y1 hy1 hm
    have hk2 : call false 50 [AV.bool (((IntKind.i64.wrap (v0_a * v1_b)) != 0))] [] = some (AV.int .i64 (y1), []) := (hc _ _ _).trans (ok_code_truth n ((IntKind.i64.wrap (v0_a * v1_b)) != 0) y1 hy1)
    try simp only [List.drop_zero, ls]
    first | simp only [hk2] | rewrite [hk2]
    try simp only [ls]
    conv => lhs; whnf
    have hq := Option.some.inj hm; clear hm; subst hq
    try simp only [ls]
    exact fq (y := some (AV.int .i64 (y1), []))
end Go.Proofs.Ytmnnkeejgkhgpaa
end

