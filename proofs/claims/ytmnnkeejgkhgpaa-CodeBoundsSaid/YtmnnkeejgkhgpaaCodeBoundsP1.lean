/- Parts of the proofs: what they lean on. Conditions: none. -/
import Derived.Test.YtmnnkeejgkhgpaaProg
import Derived.Test.YtmnnkeejgkhgpaaCodeS10
section
namespace Go.Proofs.Ytmnnkeejgkhgpaa
set_option linter.unusedVariables false
set_option linter.unusedSimpArgs false
theorem rep_one {α : Type} {r : Rd α} {f : α → AV} (he : Enc r (fun x => [f x])) {W : World} {s : Option Addr} {len cap : Nat} {x : α} (h : r.rel W (Value.slice s len cap).cells.toList x) : Rep (SAll W) W [] [] (f x) (.slice s len cap) := by
  obtain ⟨h1, _⟩ := he _ _ _ h
  cases h1 with | cons _ _ _ _ _ _ h t => exact h
theorem u8s_of {W : World} {cs : List Value} {l : List Int} (h : (rSlice (rInt .u8)).rel W cs l) : ∀ v ∈ l, 0 ≤ v ∧ v ≤ 255 := by
  obtain ⟨a, cap, _, _, h3⟩ := h
  intro v hv
  obtain ⟨k, hk, rfl⟩ := List.mem_iff_getElem.1 hv
  obtain ⟨b, off, cs', _, _, _, h4, h5⟩ := h3 k hk
  simpa [Lit.wf, IntKind.min, IntKind.max, IntKind.bits, IntKind.signed] using h5
def rd_int_i64 : Rd Int := rInt .i64
theorem op_int_i64 : Opens Try.prog 3 rd_int_i64 := opens_int Try.underlying3 (by kernel_rfl)
theorem en_int_i64 : Enc rd_int_i64 encI := enc_int _
def rd_string : Rd (List UInt8) := rStr
theorem op_string : Opens Try.prog 9 rd_string := opens_str Try.underlying9 (by kernel_rfl)
theorem en_string : Enc rd_string encS := enc_str
def rd_api_Node : Rd S_api_Node := rMap (fun x => ⟨x.1, x.2.1, x.2.2.1, x.2.2.2.1, x.2.2.2.2⟩) (rPair rd_int_i64 (rPair rd_int_i64 (rPair rd_string (rPair rd_string rd_int_i64))))
theorem op_api_Node : Opens Try.prog 57 rd_api_Node := opens_map _ (opens_struct Try.underlying57 (by kernel_rfl) (fields_cons rfl op_int_i64 (fields_cons rfl op_int_i64 (fields_cons rfl op_string (fields_cons rfl op_string (fields_one rfl op_int_i64) (by decide)) (by decide)) (by decide)) (by decide)))
theorem en_api_Node : Enc rd_api_Node c_api_Node := enc_map (fun _ => rfl) (enc_pair en_int_i64 (enc_pair en_int_i64 (enc_pair en_string (enc_pair en_string en_int_i64))))
def rd_sl_api_Node : Rd (List S_api_Node) := rSlice rd_api_Node
theorem op_sl_api_Node : Opens Try.prog 22 rd_sl_api_Node := opens_slice Try.underlying22 (by kernel_rfl) op_api_Node (by decide)
theorem en_sl_api_Node : Enc rd_sl_api_Node (fun l => [AV.sl 5 (l.map c_api_Node)]) := enc_slice en_api_Node
def rd_int_u8 : Rd Int := rInt .u8
theorem op_int_u8 : Opens Try.prog 5 rd_int_u8 := opens_int Try.underlying5 (by kernel_rfl)
theorem en_int_u8 : Enc rd_int_u8 (encK .u8) := enc_int _
def rd_sl_uint8 : Rd (List Int) := rSlice rd_int_u8
theorem op_sl_uint8 : Opens Try.prog 49 rd_sl_uint8 := opens_slice Try.underlying49 (by kernel_rfl) op_int_u8 (by decide)
theorem en_sl_uint8 : Enc rd_sl_uint8 (fun l => [AV.sl 1 (l.map (encK .u8))]) := enc_slice en_int_u8
end Go.Proofs.Ytmnnkeejgkhgpaa
end

section
namespace Go.Proofs.Ytmnnkeejgkhgpaa
set_option linter.unusedVariables false
set_option linter.unusedSimpArgs false
set_option maxRecDepth 100000

def ref02_Light_L0 (n : Nat)  (v0_l : (List S_api_Node)) : Nat → Int → Option (LR Unit Bool)
  | 0, _ => none
  | k3+1, s2 => (bif decide (s2 < (((v0_l).length : Nat) : Int)) then ((idx v0_l s2).bind fun x12 => (bif decide (100 < (((x12.f_Name).length : Nat) : Int)) then (some (.ret false)) else ((idx v0_l s2).bind fun x14 => (bif decide (100 < (((x14.f_In).length : Nat) : Int)) then (some (.ret false)) else (ref02_Light_L0 n v0_l k3 (IntKind.i64.wrap (s2 + 1))))))) else (some (.out ())))
def m_ref02_Light : Nat → (List S_api_Node) → Option Bool
  | 0, _ => none
  | n+1, v0_l => (bif decide (250 < (((v0_l).length : Nat) : Int)) then (some false) else ((ref02_Light_L0 n v0_l n 0).bind fun o10 => match o10 with | .out _ => (some true) | .ret v => some v))

def m_expr_kids : Nat → Int → Option Int
  | 0, _ => none
  | n+1, v0_op => (bif decide (1 ≤ v0_op) then (bif decide (v0_op ≤ 4) then (some 0) else (bif (v0_op == 5) then (some 1) else (bif decide (6 ≤ v0_op) then (bif decide (v0_op ≤ 14) then (some 2) else (some (-1))) else (some (-1))))) else (bif (v0_op == 5) then (some 1) else (bif decide (6 ≤ v0_op) then (bif decide (v0_op ≤ 14) then (some 2) else (some (-1))) else (some (-1)))))

def expr_End_L0 (n : Nat)  (v0_l : (List S_api_Node)) : Nat → Int → Int → Option (LR Unit Int)
  | 0, _, _ => none
  | k4+1, s2, s3 => (bif decide (s2 < (((v0_l).length : Nat) : Int)) then ((idx v0_l s2).bind fun x13 => ((m_expr_kids n x13.f_Op).bind fun y14 => (bif decide (y14 < 0) then (some (.ret (-1))) else (bif ((IntKind.i64.wrap (s3 + (IntKind.i64.wrap (y14 - 1)))) == 0) then (some (.ret (IntKind.i64.wrap (s2 + 1)))) else (expr_End_L0 n v0_l k4 (IntKind.i64.wrap (s2 + 1)) (IntKind.i64.wrap (s3 + (IntKind.i64.wrap (y14 - 1))))))))) else (some (.out ())))
def m_expr_End : Nat → (List S_api_Node) → Int → Option Int
  | 0, _, _ => none
  | n+1, v0_l, v1_i => (bif decide (v1_i < 0) then (some (-1)) else ((expr_End_L0 n v0_l n v1_i 1).bind fun o11 => match o11 with | .out _ => (some (-1)) | .ret v => some v))

def expr_depth_L1 (n : Nat)  : Nat → (List Int) → Option (LR (List Int) Int)
  | 0, _ => none
  | k21+1, s20 => (bif decide (0 < (((s20).length : Nat) : Int)) then ((idx s20 (IntKind.i64.wrap ((((s20).length : Nat) : Int) - 1))).bind fun x30 => ((idx s20 (IntKind.i64.wrap ((((s20).length : Nat) : Int) - 1))).bind fun x31 => ((idx (List.set s20 (IntKind.i64.wrap ((((s20).length : Nat) : Int) - 1)).toNat (IntKind.i64.wrap (x30 - 1))) (IntKind.i64.wrap ((((s20).length : Nat) : Int) - 1))).bind fun x33 => (bif decide (0 < x33) then (some (.out (List.set s20 (IntKind.i64.wrap ((((s20).length : Nat) : Int) - 1)).toNat (IntKind.i64.wrap (x30 - 1))))) else (bif (decide (0 ≤ (IntKind.i64.wrap ((((s20).length : Nat) : Int) - 1))) && decide ((IntKind.i64.wrap ((((s20).length : Nat) : Int) - 1)) ≤ ((((List.set s20 (IntKind.i64.wrap ((((s20).length : Nat) : Int) - 1)).toNat (IntKind.i64.wrap (x30 - 1)))).length : Nat) : Int))) then (expr_depth_L1 n k21 (List.take ((IntKind.i64.wrap ((((s20).length : Nat) : Int) - 1)).toNat) (List.set s20 (IntKind.i64.wrap ((((s20).length : Nat) : Int) - 1)).toNat (IntKind.i64.wrap (x30 - 1))))) else none))))) else (some (.out s20)))
def expr_depth_L0 (n : Nat)  (v0_l : (List S_api_Node)) : Nat → Int → Int → (List Int) → Option (LR (Int × (List Int)) Int)
  | 0, _, _, _ => none
  | k4+1, s1, s2, s3 => (bif decide (s2 < (((v0_l).length : Nat) : Int)) then ((idx v0_l s2).bind fun x13 => ((m_expr_kids n x13.f_Op).bind fun y14 => (bif decide (0 < y14) then (bif decide (((s3).length + 1) * 9 ≤ 140737488355328) then (expr_depth_L0 n v0_l k4 (if s1 < (((s3).length : Nat) : Int) then (((s3).length : Nat) : Int) else s1) (IntKind.i64.wrap (s2 + 1)) (s3 ++ ([y14] : List Int))) else none) else ((expr_depth_L1 n n s3).bind fun o28 => match o28 with | .out x38 => (expr_depth_L0 n v0_l k4 (if s1 < (((s3).length : Nat) : Int) then (((s3).length : Nat) : Int) else s1) (IntKind.i64.wrap (s2 + 1)) x38) | .ret v => some (.ret v))))) else (some (.out (s1, s3))))
def m_expr_depth : Nat → (List S_api_Node) → Option Int
  | 0, _ => none
  | n+1, v0_l => ((expr_depth_L0 n v0_l n 0 0 ([] : List Int)).bind fun o11 => match o11 with | .out (x41, x42) => (some x41) | .ret v => some v)

def m_expr_fits : Nat → S_api_Node → Option Bool
  | 0, _ => none
  | n+1, v0_x => (bif decide (v0_x.f_At < 0) then (some false) else (bif (v0_x.f_Op == 1) then (bif ((v0_x.f_Op == v0_x.f_Op) && ((v0_x.f_N == v0_x.f_N) && ((v0_x.f_Name == ([] : List UInt8)) && ((v0_x.f_In == ([] : List UInt8)) && ((v0_x.f_At == v0_x.f_At) && true))))) then (bif decide (0 ≤ v0_x.f_N) then (some (decide (v0_x.f_N ≤ 9999))) else (some false)) else (some false)) else (bif (v0_x.f_Op == 4) then ((m_scan_Name n v0_x.f_In).bind fun y7 => (bif y7 then (bif ((v0_x.f_Op == v0_x.f_Op) && ((v0_x.f_N == 0) && ((v0_x.f_Name == v0_x.f_Name) && ((v0_x.f_In == v0_x.f_In) && ((v0_x.f_At == v0_x.f_At) && true))))) then ((m_scan_Name n v0_x.f_Name).bind fun y11 => (some y11)) else (some false)) else (some false))) else (bif (v0_x.f_Op == 2) then (bif ((v0_x.f_Op == v0_x.f_Op) && ((v0_x.f_N == 0) && ((v0_x.f_Name == v0_x.f_Name) && ((v0_x.f_In == ([] : List UInt8)) && ((v0_x.f_At == v0_x.f_At) && true))))) then ((m_scan_Name n v0_x.f_Name).bind fun y16 => (some y16)) else (some false)) else (bif (v0_x.f_Op == 3) then (bif ((v0_x.f_Op == v0_x.f_Op) && ((v0_x.f_N == 0) && ((v0_x.f_Name == v0_x.f_Name) && ((v0_x.f_In == ([] : List UInt8)) && ((v0_x.f_At == v0_x.f_At) && true))))) then ((m_scan_Name n v0_x.f_Name).bind fun y21 => (some y21)) else (some false)) else (some ((v0_x.f_Op == v0_x.f_Op) && ((v0_x.f_N == 0) && ((v0_x.f_Name == ([] : List UInt8)) && ((v0_x.f_In == ([] : List UInt8)) && ((v0_x.f_At == v0_x.f_At) && true)))))))))))

def expr_Right_L0 (n : Nat)  (v0_l : (List S_api_Node)) : Nat → Int → Option (LR Unit Bool)
  | 0, _ => none
  | k7+1, s6 => (bif decide (s6 < (((v0_l).length : Nat) : Int)) then ((idx v0_l s6).bind fun x16 => ((m_expr_fits n x16).bind fun y17 => (bif y17 then (expr_Right_L0 n v0_l k7 (IntKind.i64.wrap (s6 + 1))) else (some (.ret false))))) else (some (.out ())))
def m_expr_Right : Nat → (List S_api_Node) → Option Bool
  | 0, _ => none
  | n+1, v0_l => (bif ((((v0_l).length : Nat) : Int) == 0) then (some false) else (bif decide (200 < (((v0_l).length : Nat) : Int)) then (some false) else ((m_expr_End n v0_l 0).bind fun y3 => (bif (y3 != (((v0_l).length : Nat) : Int)) then (some false) else ((expr_Right_L0 n v0_l n 0).bind fun o14 => match o14 with | .out _ => ((m_expr_depth n v0_l).bind fun y21 => (some (decide (y21 ≤ 30)))) | .ret v => some v)))))

def legal_Index_L0 (n : Nat)  (v0_l : (List (List UInt8))) (v1_name : (List UInt8)) : Nat → Int → Option (LR Unit Int)
  | 0, _ => none
  | k2+1, s1 => (bif decide (s1 < (((v0_l).length : Nat) : Int)) then ((idx v0_l s1).bind fun x11 => (bif (x11 == v1_name) then (some (.ret s1)) else (legal_Index_L0 n v0_l v1_name k2 (IntKind.i64.wrap (s1 + 1))))) else (some (.out ())))
def m_legal_Index : Nat → (List (List UInt8)) → (List UInt8) → Option Int
  | 0, _, _ => none
  | n+1, v0_l, v1_name => ((legal_Index_L0 n v0_l v1_name n 0).bind fun o9 => match o9 with | .out _ => (some (-1)) | .ret v => some v)

inductive R_ref06_made where
  | c0 (x : (List OpS))
  | c1 (x : (Nat × Nat))
inductive R_code_of where
  | c0 (x : (Int × Bool))
  | c1 (x : (Int × Bool))
  | c2 (x : (Int × Bool))
  | c3 (x : (Int × Bool))
  | c4 (x : (Int × Bool))
  | c5 (x : (Int × Bool))
  | c6 (x : (Int × Bool))
  | c7 (x : (Int × Bool))
  | c8 (x : (Int × Bool))
  | c9 (x : (Int × Bool))
  | c10 (x : (Int × Bool))
def m_code_of : Nat → Int → Option R_code_of
  | 0, _ => none
  | n+1, v0_op => (bif decide (v0_op < 5) then (some (R_code_of.c0 (0, false))) else (bif decide (15 ≤ v0_op) then (some (R_code_of.c0 (0, false))) else (bif decide (v0_op = ((14 : Nat) : Int)) then (some (R_code_of.c1 (2, true))) else (bif decide (v0_op = ((13 : Nat) : Int)) then (some (R_code_of.c2 (2, true))) else (bif decide (v0_op = ((12 : Nat) : Int)) then (some (R_code_of.c3 (2, true))) else (bif decide (v0_op = ((11 : Nat) : Int)) then (some (R_code_of.c4 (2, true))) else (bif decide (v0_op = ((10 : Nat) : Int)) then (some (R_code_of.c5 (2, true))) else (bif decide (v0_op = ((9 : Nat) : Int)) then (some (R_code_of.c6 (2, true))) else (bif decide (v0_op = ((8 : Nat) : Int)) then (some (R_code_of.c7 (2, true))) else (bif decide (v0_op = ((7 : Nat) : Int)) then (some (R_code_of.c8 (2, true))) else (bif decide (v0_op = ((6 : Nat) : Int)) then (some (R_code_of.c9 (2, true))) else (bif decide (v0_op = ((5 : Nat) : Int)) then (some (R_code_of.c10 (1, true))) else (bif decide (v0_op = ((4 : Nat) : Int)) then (some (R_code_of.c0 (0, true))) else (bif decide (v0_op = ((3 : Nat) : Int)) then (some (R_code_of.c0 (0, true))) else (bif decide (v0_op = ((2 : Nat) : Int)) then (some (R_code_of.c0 (0, true))) else (bif decide (v0_op = ((1 : Nat) : Int)) then (some (R_code_of.c0 (0, true))) else (bif decide (v0_op = ((0 : Nat) : Int)) then (some (R_code_of.c0 (0, true))) else none)))))))))))))))))

def code_lies_L0 (n : Nat)  (v0_l : (List OpS)) : Nat → Int → Int → Int → Option (LR (Int × Int) (Int × Int))
  | 0, _, _, _ => none
  | k4+1, s1, s2, s3 => (bif decide (s3 < (((v0_l).length : Nat) : Int)) then ((idx v0_l s3).bind fun x13 => ((m_code_of n x13.op).bind fun y14 => (match y14 with | .c0 y16 => (bif decide (1 ≤ x13.op) then (bif (y16).2 then (bif decide (s1 < ((y16).1)) then (some (.ret ((-1), (-1)))) else (code_lies_L0 n v0_l k4 (IntKind.i64.wrap (s1 + (IntKind.i64.wrap (1 - ((y16).1))))) (if s2 < (IntKind.i64.wrap (s1 + (IntKind.i64.wrap (1 - ((y16).1))))) then (IntKind.i64.wrap (s1 + (IntKind.i64.wrap (1 - ((y16).1))))) else s2) (IntKind.i64.wrap (s3 + 1)))) else (bif decide (x13.op ≤ 4) then (bif decide (s1 < ((y16).1)) then (some (.ret ((-1), (-1)))) else (code_lies_L0 n v0_l k4 (IntKind.i64.wrap (s1 + (IntKind.i64.wrap (1 - ((y16).1))))) (if s2 < (IntKind.i64.wrap (s1 + (IntKind.i64.wrap (1 - ((y16).1))))) then (IntKind.i64.wrap (s1 + (IntKind.i64.wrap (1 - ((y16).1))))) else s2) (IntKind.i64.wrap (s3 + 1)))) else (some (.ret ((-1), (-1)))))) else (bif (y16).2 then (bif decide (s1 < ((y16).1)) then (some (.ret ((-1), (-1)))) else (code_lies_L0 n v0_l k4 (IntKind.i64.wrap (s1 + (IntKind.i64.wrap (1 - ((y16).1))))) (if s2 < (IntKind.i64.wrap (s1 + (IntKind.i64.wrap (1 - ((y16).1))))) then (IntKind.i64.wrap (s1 + (IntKind.i64.wrap (1 - ((y16).1))))) else s2) (IntKind.i64.wrap (s3 + 1)))) else (some (.ret ((-1), (-1)))))) | .c1 y17 => (bif decide (1 ≤ x13.op) then (bif (y17).2 then (bif decide (s1 < ((y17).1)) then (some (.ret ((-1), (-1)))) else (code_lies_L0 n v0_l k4 (IntKind.i64.wrap (s1 + (IntKind.i64.wrap (1 - ((y17).1))))) (if s2 < (IntKind.i64.wrap (s1 + (IntKind.i64.wrap (1 - ((y17).1))))) then (IntKind.i64.wrap (s1 + (IntKind.i64.wrap (1 - ((y17).1))))) else s2) (IntKind.i64.wrap (s3 + 1)))) else (bif decide (x13.op ≤ 4) then (bif decide (s1 < ((y17).1)) then (some (.ret ((-1), (-1)))) else (code_lies_L0 n v0_l k4 (IntKind.i64.wrap (s1 + (IntKind.i64.wrap (1 - ((y17).1))))) (if s2 < (IntKind.i64.wrap (s1 + (IntKind.i64.wrap (1 - ((y17).1))))) then (IntKind.i64.wrap (s1 + (IntKind.i64.wrap (1 - ((y17).1))))) else s2) (IntKind.i64.wrap (s3 + 1)))) else (some (.ret ((-1), (-1)))))) else (bif (y17).2 then (bif decide (s1 < ((y17).1)) then (some (.ret ((-1), (-1)))) else (code_lies_L0 n v0_l k4 (IntKind.i64.wrap (s1 + (IntKind.i64.wrap (1 - ((y17).1))))) (if s2 < (IntKind.i64.wrap (s1 + (IntKind.i64.wrap (1 - ((y17).1))))) then (IntKind.i64.wrap (s1 + (IntKind.i64.wrap (1 - ((y17).1))))) else s2) (IntKind.i64.wrap (s3 + 1)))) else (some (.ret ((-1), (-1)))))) | .c2 y18 => (bif decide (1 ≤ x13.op) then (bif (y18).2 then (bif decide (s1 < ((y18).1)) then (some (.ret ((-1), (-1)))) else (code_lies_L0 n v0_l k4 (IntKind.i64.wrap (s1 + (IntKind.i64.wrap (1 - ((y18).1))))) (if s2 < (IntKind.i64.wrap (s1 + (IntKind.i64.wrap (1 - ((y18).1))))) then (IntKind.i64.wrap (s1 + (IntKind.i64.wrap (1 - ((y18).1))))) else s2) (IntKind.i64.wrap (s3 + 1)))) else (bif decide (x13.op ≤ 4) then (bif decide (s1 < ((y18).1)) then (some (.ret ((-1), (-1)))) else (code_lies_L0 n v0_l k4 (IntKind.i64.wrap (s1 + (IntKind.i64.wrap (1 - ((y18).1))))) (if s2 < (IntKind.i64.wrap (s1 + (IntKind.i64.wrap (1 - ((y18).1))))) then (IntKind.i64.wrap (s1 + (IntKind.i64.wrap (1 - ((y18).1))))) else s2) (IntKind.i64.wrap (s3 + 1)))) else (some (.ret ((-1), (-1)))))) else (bif (y18).2 then (bif decide (s1 < ((y18).1)) then (some (.ret ((-1), (-1)))) else (code_lies_L0 n v0_l k4 (IntKind.i64.wrap (s1 + (IntKind.i64.wrap (1 - ((y18).1))))) (if s2 < (IntKind.i64.wrap (s1 + (IntKind.i64.wrap (1 - ((y18).1))))) then (IntKind.i64.wrap (s1 + (IntKind.i64.wrap (1 - ((y18).1))))) else s2) (IntKind.i64.wrap (s3 + 1)))) else (some (.ret ((-1), (-1)))))) | .c3 y19 => (bif decide (1 ≤ x13.op) then (bif (y19).2 then (bif decide (s1 < ((y19).1)) then (some (.ret ((-1), (-1)))) else (code_lies_L0 n v0_l k4 (IntKind.i64.wrap (s1 + (IntKind.i64.wrap (1 - ((y19).1))))) (if s2 < (IntKind.i64.wrap (s1 + (IntKind.i64.wrap (1 - ((y19).1))))) then (IntKind.i64.wrap (s1 + (IntKind.i64.wrap (1 - ((y19).1))))) else s2) (IntKind.i64.wrap (s3 + 1)))) else (bif decide (x13.op ≤ 4) then (bif decide (s1 < ((y19).1)) then (some (.ret ((-1), (-1)))) else (code_lies_L0 n v0_l k4 (IntKind.i64.wrap (s1 + (IntKind.i64.wrap (1 - ((y19).1))))) (if s2 < (IntKind.i64.wrap (s1 + (IntKind.i64.wrap (1 - ((y19).1))))) then (IntKind.i64.wrap (s1 + (IntKind.i64.wrap (1 - ((y19).1))))) else s2) (IntKind.i64.wrap (s3 + 1)))) else (some (.ret ((-1), (-1)))))) else (bif (y19).2 then (bif decide (s1 < ((y19).1)) then (some (.ret ((-1), (-1)))) else (code_lies_L0 n v0_l k4 (IntKind.i64.wrap (s1 + (IntKind.i64.wrap (1 - ((y19).1))))) (if s2 < (IntKind.i64.wrap (s1 + (IntKind.i64.wrap (1 - ((y19).1))))) then (IntKind.i64.wrap (s1 + (IntKind.i64.wrap (1 - ((y19).1))))) else s2) (IntKind.i64.wrap (s3 + 1)))) else (some (.ret ((-1), (-1)))))) | .c4 y20 => (bif decide (1 ≤ x13.op) then (bif (y20).2 then (bif decide (s1 < ((y20).1)) then (some (.ret ((-1), (-1)))) else (code_lies_L0 n v0_l k4 (IntKind.i64.wrap (s1 + (IntKind.i64.wrap (1 - ((y20).1))))) (if s2 < (IntKind.i64.wrap (s1 + (IntKind.i64.wrap (1 - ((y20).1))))) then (IntKind.i64.wrap (s1 + (IntKind.i64.wrap (1 - ((y20).1))))) else s2) (IntKind.i64.wrap (s3 + 1)))) else (bif decide (x13.op ≤ 4) then (bif decide (s1 < ((y20).1)) then (some (.ret ((-1), (-1)))) else (code_lies_L0 n v0_l k4 (IntKind.i64.wrap (s1 + (IntKind.i64.wrap (1 - ((y20).1))))) (if s2 < (IntKind.i64.wrap (s1 + (IntKind.i64.wrap (1 - ((y20).1))))) then (IntKind.i64.wrap (s1 + (IntKind.i64.wrap (1 - ((y20).1))))) else s2) (IntKind.i64.wrap (s3 + 1)))) else (some (.ret ((-1), (-1)))))) else (bif (y20).2 then (bif decide (s1 < ((y20).1)) then (some (.ret ((-1), (-1)))) else (code_lies_L0 n v0_l k4 (IntKind.i64.wrap (s1 + (IntKind.i64.wrap (1 - ((y20).1))))) (if s2 < (IntKind.i64.wrap (s1 + (IntKind.i64.wrap (1 - ((y20).1))))) then (IntKind.i64.wrap (s1 + (IntKind.i64.wrap (1 - ((y20).1))))) else s2) (IntKind.i64.wrap (s3 + 1)))) else (some (.ret ((-1), (-1)))))) | .c5 y21 => (bif decide (1 ≤ x13.op) then (bif (y21).2 then (bif decide (s1 < ((y21).1)) then (some (.ret ((-1), (-1)))) else (code_lies_L0 n v0_l k4 (IntKind.i64.wrap (s1 + (IntKind.i64.wrap (1 - ((y21).1))))) (if s2 < (IntKind.i64.wrap (s1 + (IntKind.i64.wrap (1 - ((y21).1))))) then (IntKind.i64.wrap (s1 + (IntKind.i64.wrap (1 - ((y21).1))))) else s2) (IntKind.i64.wrap (s3 + 1)))) else (bif decide (x13.op ≤ 4) then (bif decide (s1 < ((y21).1)) then (some (.ret ((-1), (-1)))) else (code_lies_L0 n v0_l k4 (IntKind.i64.wrap (s1 + (IntKind.i64.wrap (1 - ((y21).1))))) (if s2 < (IntKind.i64.wrap (s1 + (IntKind.i64.wrap (1 - ((y21).1))))) then (IntKind.i64.wrap (s1 + (IntKind.i64.wrap (1 - ((y21).1))))) else s2) (IntKind.i64.wrap (s3 + 1)))) else (some (.ret ((-1), (-1)))))) else (bif (y21).2 then (bif decide (s1 < ((y21).1)) then (some (.ret ((-1), (-1)))) else (code_lies_L0 n v0_l k4 (IntKind.i64.wrap (s1 + (IntKind.i64.wrap (1 - ((y21).1))))) (if s2 < (IntKind.i64.wrap (s1 + (IntKind.i64.wrap (1 - ((y21).1))))) then (IntKind.i64.wrap (s1 + (IntKind.i64.wrap (1 - ((y21).1))))) else s2) (IntKind.i64.wrap (s3 + 1)))) else (some (.ret ((-1), (-1)))))) | .c6 y22 => (bif decide (1 ≤ x13.op) then (bif (y22).2 then (bif decide (s1 < ((y22).1)) then (some (.ret ((-1), (-1)))) else (code_lies_L0 n v0_l k4 (IntKind.i64.wrap (s1 + (IntKind.i64.wrap (1 - ((y22).1))))) (if s2 < (IntKind.i64.wrap (s1 + (IntKind.i64.wrap (1 - ((y22).1))))) then (IntKind.i64.wrap (s1 + (IntKind.i64.wrap (1 - ((y22).1))))) else s2) (IntKind.i64.wrap (s3 + 1)))) else (bif decide (x13.op ≤ 4) then (bif decide (s1 < ((y22).1)) then (some (.ret ((-1), (-1)))) else (code_lies_L0 n v0_l k4 (IntKind.i64.wrap (s1 + (IntKind.i64.wrap (1 - ((y22).1))))) (if s2 < (IntKind.i64.wrap (s1 + (IntKind.i64.wrap (1 - ((y22).1))))) then (IntKind.i64.wrap (s1 + (IntKind.i64.wrap (1 - ((y22).1))))) else s2) (IntKind.i64.wrap (s3 + 1)))) else (some (.ret ((-1), (-1)))))) else (bif (y22).2 then (bif decide (s1 < ((y22).1)) then (some (.ret ((-1), (-1)))) else (code_lies_L0 n v0_l k4 (IntKind.i64.wrap (s1 + (IntKind.i64.wrap (1 - ((y22).1))))) (if s2 < (IntKind.i64.wrap (s1 + (IntKind.i64.wrap (1 - ((y22).1))))) then (IntKind.i64.wrap (s1 + (IntKind.i64.wrap (1 - ((y22).1))))) else s2) (IntKind.i64.wrap (s3 + 1)))) else (some (.ret ((-1), (-1)))))) | .c7 y23 => (bif decide (1 ≤ x13.op) then (bif (y23).2 then (bif decide (s1 < ((y23).1)) then (some (.ret ((-1), (-1)))) else (code_lies_L0 n v0_l k4 (IntKind.i64.wrap (s1 + (IntKind.i64.wrap (1 - ((y23).1))))) (if s2 < (IntKind.i64.wrap (s1 + (IntKind.i64.wrap (1 - ((y23).1))))) then (IntKind.i64.wrap (s1 + (IntKind.i64.wrap (1 - ((y23).1))))) else s2) (IntKind.i64.wrap (s3 + 1)))) else (bif decide (x13.op ≤ 4) then (bif decide (s1 < ((y23).1)) then (some (.ret ((-1), (-1)))) else (code_lies_L0 n v0_l k4 (IntKind.i64.wrap (s1 + (IntKind.i64.wrap (1 - ((y23).1))))) (if s2 < (IntKind.i64.wrap (s1 + (IntKind.i64.wrap (1 - ((y23).1))))) then (IntKind.i64.wrap (s1 + (IntKind.i64.wrap (1 - ((y23).1))))) else s2) (IntKind.i64.wrap (s3 + 1)))) else (some (.ret ((-1), (-1)))))) else (bif (y23).2 then (bif decide (s1 < ((y23).1)) then (some (.ret ((-1), (-1)))) else (code_lies_L0 n v0_l k4 (IntKind.i64.wrap (s1 + (IntKind.i64.wrap (1 - ((y23).1))))) (if s2 < (IntKind.i64.wrap (s1 + (IntKind.i64.wrap (1 - ((y23).1))))) then (IntKind.i64.wrap (s1 + (IntKind.i64.wrap (1 - ((y23).1))))) else s2) (IntKind.i64.wrap (s3 + 1)))) else (some (.ret ((-1), (-1)))))) | .c8 y24 => (bif decide (1 ≤ x13.op) then (bif (y24).2 then (bif decide (s1 < ((y24).1)) then (some (.ret ((-1), (-1)))) else (code_lies_L0 n v0_l k4 (IntKind.i64.wrap (s1 + (IntKind.i64.wrap (1 - ((y24).1))))) (if s2 < (IntKind.i64.wrap (s1 + (IntKind.i64.wrap (1 - ((y24).1))))) then (IntKind.i64.wrap (s1 + (IntKind.i64.wrap (1 - ((y24).1))))) else s2) (IntKind.i64.wrap (s3 + 1)))) else (bif decide (x13.op ≤ 4) then (bif decide (s1 < ((y24).1)) then (some (.ret ((-1), (-1)))) else (code_lies_L0 n v0_l k4 (IntKind.i64.wrap (s1 + (IntKind.i64.wrap (1 - ((y24).1))))) (if s2 < (IntKind.i64.wrap (s1 + (IntKind.i64.wrap (1 - ((y24).1))))) then (IntKind.i64.wrap (s1 + (IntKind.i64.wrap (1 - ((y24).1))))) else s2) (IntKind.i64.wrap (s3 + 1)))) else (some (.ret ((-1), (-1)))))) else (bif (y24).2 then (bif decide (s1 < ((y24).1)) then (some (.ret ((-1), (-1)))) else (code_lies_L0 n v0_l k4 (IntKind.i64.wrap (s1 + (IntKind.i64.wrap (1 - ((y24).1))))) (if s2 < (IntKind.i64.wrap (s1 + (IntKind.i64.wrap (1 - ((y24).1))))) then (IntKind.i64.wrap (s1 + (IntKind.i64.wrap (1 - ((y24).1))))) else s2) (IntKind.i64.wrap (s3 + 1)))) else (some (.ret ((-1), (-1)))))) | .c9 y25 => (bif decide (1 ≤ x13.op) then (bif (y25).2 then (bif decide (s1 < ((y25).1)) then (some (.ret ((-1), (-1)))) else (code_lies_L0 n v0_l k4 (IntKind.i64.wrap (s1 + (IntKind.i64.wrap (1 - ((y25).1))))) (if s2 < (IntKind.i64.wrap (s1 + (IntKind.i64.wrap (1 - ((y25).1))))) then (IntKind.i64.wrap (s1 + (IntKind.i64.wrap (1 - ((y25).1))))) else s2) (IntKind.i64.wrap (s3 + 1)))) else (bif decide (x13.op ≤ 4) then (bif decide (s1 < ((y25).1)) then (some (.ret ((-1), (-1)))) else (code_lies_L0 n v0_l k4 (IntKind.i64.wrap (s1 + (IntKind.i64.wrap (1 - ((y25).1))))) (if s2 < (IntKind.i64.wrap (s1 + (IntKind.i64.wrap (1 - ((y25).1))))) then (IntKind.i64.wrap (s1 + (IntKind.i64.wrap (1 - ((y25).1))))) else s2) (IntKind.i64.wrap (s3 + 1)))) else (some (.ret ((-1), (-1)))))) else (bif (y25).2 then (bif decide (s1 < ((y25).1)) then (some (.ret ((-1), (-1)))) else (code_lies_L0 n v0_l k4 (IntKind.i64.wrap (s1 + (IntKind.i64.wrap (1 - ((y25).1))))) (if s2 < (IntKind.i64.wrap (s1 + (IntKind.i64.wrap (1 - ((y25).1))))) then (IntKind.i64.wrap (s1 + (IntKind.i64.wrap (1 - ((y25).1))))) else s2) (IntKind.i64.wrap (s3 + 1)))) else (some (.ret ((-1), (-1)))))) | .c10 y26 => (bif decide (1 ≤ x13.op) then (bif (y26).2 then (bif decide (s1 < ((y26).1)) then (some (.ret ((-1), (-1)))) else (code_lies_L0 n v0_l k4 (IntKind.i64.wrap (s1 + (IntKind.i64.wrap (1 - ((y26).1))))) (if s2 < (IntKind.i64.wrap (s1 + (IntKind.i64.wrap (1 - ((y26).1))))) then (IntKind.i64.wrap (s1 + (IntKind.i64.wrap (1 - ((y26).1))))) else s2) (IntKind.i64.wrap (s3 + 1)))) else (bif decide (x13.op ≤ 4) then (bif decide (s1 < ((y26).1)) then (some (.ret ((-1), (-1)))) else (code_lies_L0 n v0_l k4 (IntKind.i64.wrap (s1 + (IntKind.i64.wrap (1 - ((y26).1))))) (if s2 < (IntKind.i64.wrap (s1 + (IntKind.i64.wrap (1 - ((y26).1))))) then (IntKind.i64.wrap (s1 + (IntKind.i64.wrap (1 - ((y26).1))))) else s2) (IntKind.i64.wrap (s3 + 1)))) else (some (.ret ((-1), (-1)))))) else (bif (y26).2 then (bif decide (s1 < ((y26).1)) then (some (.ret ((-1), (-1)))) else (code_lies_L0 n v0_l k4 (IntKind.i64.wrap (s1 + (IntKind.i64.wrap (1 - ((y26).1))))) (if s2 < (IntKind.i64.wrap (s1 + (IntKind.i64.wrap (1 - ((y26).1))))) then (IntKind.i64.wrap (s1 + (IntKind.i64.wrap (1 - ((y26).1))))) else s2) (IntKind.i64.wrap (s3 + 1)))) else (some (.ret ((-1), (-1))))))))) else (some (.out (s1, s2))))
def m_code_lies : Nat → (List OpS) → Option (Int × Int)
  | 0, _ => none
  | n+1, v0_l => ((code_lies_L0 n v0_l n 0 0 0).bind fun o11 => match o11 with | .out (x105, x106) => (some (x105, x106)) | .ret v => some v)

def m_code_Depth : Nat → (List OpS) → Option Int
  | 0, _ => none
  | n+1, v0_l => ((m_code_lies n v0_l).bind fun y1 => (some ((y1).2)))

def code_Right_L0 (n : Nat)  (v0_l : (List OpS)) (v1_regs : (List Int)) (v2_own : Int) (v3_locs : Int) : Nat → Int → Option (LR Unit Bool)
  | 0, _ => none
  | k2+1, s1 => (bif decide (s1 < (((v0_l).length : Nat) : Int)) then ((idx v0_l s1).bind fun x11 => (bif (x11.op == 1) then (bif decide (x11.n < 0) then (some (.ret false)) else (bif decide (10000 ≤ x11.n) then (some (.ret false)) else (code_Right_L0 n v0_l v1_regs v2_own v3_locs k2 (IntKind.i64.wrap (s1 + 1))))) else (bif (x11.op == 2) then (bif decide (x11.n < 0) then (some (.ret false)) else (bif decide (v2_own ≤ x11.n) then (some (.ret false)) else (code_Right_L0 n v0_l v1_regs v2_own v3_locs k2 (IntKind.i64.wrap (s1 + 1))))) else (bif (x11.op == 3) then (bif decide (x11.n < 0) then (some (.ret false)) else (bif decide (v3_locs ≤ x11.n) then (some (.ret false)) else (code_Right_L0 n v0_l v1_regs v2_own v3_locs k2 (IntKind.i64.wrap (s1 + 1))))) else (bif (x11.op == 4) then (bif decide (0 ≤ x11.t) then (bif decide (x11.t < (((v1_regs).length : Nat) : Int)) then ((idx v1_regs x11.t).bind fun x24 => (bif decide (x11.n < 0) then (some (.ret false)) else (bif decide (x24 ≤ x11.n) then (some (.ret false)) else (code_Right_L0 n v0_l v1_regs v2_own v3_locs k2 (IntKind.i64.wrap (s1 + 1)))))) else (bif decide (x11.n < 0) then (some (.ret false)) else (bif decide (0 ≤ x11.n) then (some (.ret false)) else (code_Right_L0 n v0_l v1_regs v2_own v3_locs k2 (IntKind.i64.wrap (s1 + 1)))))) else (bif decide (x11.n < 0) then (some (.ret false)) else (bif decide (0 ≤ x11.n) then (some (.ret false)) else (code_Right_L0 n v0_l v1_regs v2_own v3_locs k2 (IntKind.i64.wrap (s1 + 1)))))) else (code_Right_L0 n v0_l v1_regs v2_own v3_locs k2 (IntKind.i64.wrap (s1 + 1)))))))) else (some (.out ())))
def m_code_Right : Nat → (List OpS) → (List Int) → Int → Int → Option Bool
  | 0, _, _, _, _ => none
  | n+1, v0_l, v1_regs, v2_own, v3_locs => ((code_Right_L0 n v0_l v1_regs v2_own v3_locs n 0).bind fun o9 => match o9 with | .out _ => ((m_code_lies n v0_l).bind fun y32 => (some (((y32).1) == 1))) | .ret v => some v)

def m_code_Thread_1 : Nat → S_api_Node → (List (List UInt8)) → Option (OpS × Bool)
  | 0, _, _ => none
  | n+1, v0_x, o0 => (bif (v0_x.f_Op == 1) then (some ((⟨1, v0_x.f_N, 0⟩ : OpS), true)) else ((m_legal_Index n o0 v0_x.f_Name).bind fun y2 => (bif (v0_x.f_Op == 2) then (some ((⟨2, y2, 0⟩ : OpS), (y2 != (-1)))) else (some ((⟨2, y2, 0⟩ : OpS), false)))))

def code_maker_node_L0 (n : Nat) (rec_code_maker_node : Int → (List S_api_Node) → (List OpS) → Bool → (List (List UInt8)) → Option (Int × (List OpS) × Bool)) (m_l : (List S_api_Node)) (o1 : (List (List UInt8))) (y4 : (Int × Bool)) : Nat → Int → Int → Bool → (List OpS) → Option (LR (Int × Bool × (List OpS)) (Int × (List OpS) × Bool))
  | 0, _, _, _, _ => none
  | k20+1, s16, s17, s18, s19 => (bif decide (s17 < ((y4).1)) then ((rec_code_maker_node s16 m_l s19 s18 o1).bind fun y29 => (code_maker_node_L0 n rec_code_maker_node m_l o1 y4 k20 ((y29).1) (IntKind.i64.wrap (s17 + 1)) ((y29).2.2) ((y29).2.1))) else (some (.out (s16, s18, s19))))
def code_maker_node_L1 (n : Nat) (rec_code_maker_node : Int → (List S_api_Node) → (List OpS) → Bool → (List (List UInt8)) → Option (Int × (List OpS) × Bool)) (m_l : (List S_api_Node)) (o1 : (List (List UInt8))) (y5 : (Int × Bool)) : Nat → Int → Int → Bool → (List OpS) → Option (LR (Int × Bool × (List OpS)) (Int × (List OpS) × Bool))
  | 0, _, _, _, _ => none
  | k53+1, s49, s50, s51, s52 => (bif decide (s50 < ((y5).1)) then ((rec_code_maker_node s49 m_l s52 s51 o1).bind fun y62 => (code_maker_node_L1 n rec_code_maker_node m_l o1 y5 k53 ((y62).1) (IntKind.i64.wrap (s50 + 1)) ((y62).2.2) ((y62).2.1))) else (some (.out (s49, s51, s52))))
def code_maker_node_L2 (n : Nat) (rec_code_maker_node : Int → (List S_api_Node) → (List OpS) → Bool → (List (List UInt8)) → Option (Int × (List OpS) × Bool)) (m_l : (List S_api_Node)) (o1 : (List (List UInt8))) (y6 : (Int × Bool)) : Nat → Int → Int → Bool → (List OpS) → Option (LR (Int × Bool × (List OpS)) (Int × (List OpS) × Bool))
  | 0, _, _, _, _ => none
  | k86+1, s82, s83, s84, s85 => (bif decide (s83 < ((y6).1)) then ((rec_code_maker_node s82 m_l s85 s84 o1).bind fun y95 => (code_maker_node_L2 n rec_code_maker_node m_l o1 y6 k86 ((y95).1) (IntKind.i64.wrap (s83 + 1)) ((y95).2.2) ((y95).2.1))) else (some (.out (s82, s84, s85))))
def code_maker_node_L3 (n : Nat) (rec_code_maker_node : Int → (List S_api_Node) → (List OpS) → Bool → (List (List UInt8)) → Option (Int × (List OpS) × Bool)) (m_l : (List S_api_Node)) (o1 : (List (List UInt8))) (y7 : (Int × Bool)) : Nat → Int → Int → Bool → (List OpS) → Option (LR (Int × Bool × (List OpS)) (Int × (List OpS) × Bool))
  | 0, _, _, _, _ => none
  | k119+1, s115, s116, s117, s118 => (bif decide (s116 < ((y7).1)) then ((rec_code_maker_node s115 m_l s118 s117 o1).bind fun y128 => (code_maker_node_L3 n rec_code_maker_node m_l o1 y7 k119 ((y128).1) (IntKind.i64.wrap (s116 + 1)) ((y128).2.2) ((y128).2.1))) else (some (.out (s115, s117, s118))))
def code_maker_node_L4 (n : Nat) (rec_code_maker_node : Int → (List S_api_Node) → (List OpS) → Bool → (List (List UInt8)) → Option (Int × (List OpS) × Bool)) (m_l : (List S_api_Node)) (o1 : (List (List UInt8))) (y8 : (Int × Bool)) : Nat → Int → Int → Bool → (List OpS) → Option (LR (Int × Bool × (List OpS)) (Int × (List OpS) × Bool))
  | 0, _, _, _, _ => none
  | k152+1, s148, s149, s150, s151 => (bif decide (s149 < ((y8).1)) then ((rec_code_maker_node s148 m_l s151 s150 o1).bind fun y161 => (code_maker_node_L4 n rec_code_maker_node m_l o1 y8 k152 ((y161).1) (IntKind.i64.wrap (s149 + 1)) ((y161).2.2) ((y161).2.1))) else (some (.out (s148, s150, s151))))
def code_maker_node_L5 (n : Nat) (rec_code_maker_node : Int → (List S_api_Node) → (List OpS) → Bool → (List (List UInt8)) → Option (Int × (List OpS) × Bool)) (m_l : (List S_api_Node)) (o1 : (List (List UInt8))) (y9 : (Int × Bool)) : Nat → Int → Int → Bool → (List OpS) → Option (LR (Int × Bool × (List OpS)) (Int × (List OpS) × Bool))
  | 0, _, _, _, _ => none
  | k185+1, s181, s182, s183, s184 => (bif decide (s182 < ((y9).1)) then ((rec_code_maker_node s181 m_l s184 s183 o1).bind fun y194 => (code_maker_node_L5 n rec_code_maker_node m_l o1 y9 k185 ((y194).1) (IntKind.i64.wrap (s182 + 1)) ((y194).2.2) ((y194).2.1))) else (some (.out (s181, s183, s184))))
def code_maker_node_L6 (n : Nat) (rec_code_maker_node : Int → (List S_api_Node) → (List OpS) → Bool → (List (List UInt8)) → Option (Int × (List OpS) × Bool)) (m_l : (List S_api_Node)) (o1 : (List (List UInt8))) (y10 : (Int × Bool)) : Nat → Int → Int → Bool → (List OpS) → Option (LR (Int × Bool × (List OpS)) (Int × (List OpS) × Bool))
  | 0, _, _, _, _ => none
  | k218+1, s214, s215, s216, s217 => (bif decide (s215 < ((y10).1)) then ((rec_code_maker_node s214 m_l s217 s216 o1).bind fun y227 => (code_maker_node_L6 n rec_code_maker_node m_l o1 y10 k218 ((y227).1) (IntKind.i64.wrap (s215 + 1)) ((y227).2.2) ((y227).2.1))) else (some (.out (s214, s216, s217))))
def code_maker_node_L7 (n : Nat) (rec_code_maker_node : Int → (List S_api_Node) → (List OpS) → Bool → (List (List UInt8)) → Option (Int × (List OpS) × Bool)) (m_l : (List S_api_Node)) (o1 : (List (List UInt8))) (y11 : (Int × Bool)) : Nat → Int → Int → Bool → (List OpS) → Option (LR (Int × Bool × (List OpS)) (Int × (List OpS) × Bool))
  | 0, _, _, _, _ => none
  | k251+1, s247, s248, s249, s250 => (bif decide (s248 < ((y11).1)) then ((rec_code_maker_node s247 m_l s250 s249 o1).bind fun y260 => (code_maker_node_L7 n rec_code_maker_node m_l o1 y11 k251 ((y260).1) (IntKind.i64.wrap (s248 + 1)) ((y260).2.2) ((y260).2.1))) else (some (.out (s247, s249, s250))))
def code_maker_node_L8 (n : Nat) (rec_code_maker_node : Int → (List S_api_Node) → (List OpS) → Bool → (List (List UInt8)) → Option (Int × (List OpS) × Bool)) (m_l : (List S_api_Node)) (o1 : (List (List UInt8))) (y12 : (Int × Bool)) : Nat → Int → Int → Bool → (List OpS) → Option (LR (Int × Bool × (List OpS)) (Int × (List OpS) × Bool))
  | 0, _, _, _, _ => none
  | k284+1, s280, s281, s282, s283 => (bif decide (s281 < ((y12).1)) then ((rec_code_maker_node s280 m_l s283 s282 o1).bind fun y293 => (code_maker_node_L8 n rec_code_maker_node m_l o1 y12 k284 ((y293).1) (IntKind.i64.wrap (s281 + 1)) ((y293).2.2) ((y293).2.1))) else (some (.out (s280, s282, s283))))
def code_maker_node_L9 (n : Nat) (rec_code_maker_node : Int → (List S_api_Node) → (List OpS) → Bool → (List (List UInt8)) → Option (Int × (List OpS) × Bool)) (m_l : (List S_api_Node)) (o1 : (List (List UInt8))) (y13 : (Int × Bool)) : Nat → Int → Int → Bool → (List OpS) → Option (LR (Int × Bool × (List OpS)) (Int × (List OpS) × Bool))
  | 0, _, _, _, _ => none
  | k317+1, s313, s314, s315, s316 => (bif decide (s314 < ((y13).1)) then ((rec_code_maker_node s313 m_l s316 s315 o1).bind fun y326 => (code_maker_node_L9 n rec_code_maker_node m_l o1 y13 k317 ((y326).1) (IntKind.i64.wrap (s314 + 1)) ((y326).2.2) ((y326).2.1))) else (some (.out (s313, s315, s316))))
def code_maker_node_L10 (n : Nat) (rec_code_maker_node : Int → (List S_api_Node) → (List OpS) → Bool → (List (List UInt8)) → Option (Int × (List OpS) × Bool)) (m_l : (List S_api_Node)) (o1 : (List (List UInt8))) (y14 : (Int × Bool)) : Nat → Int → Int → Bool → (List OpS) → Option (LR (Int × Bool × (List OpS)) (Int × (List OpS) × Bool))
  | 0, _, _, _, _ => none
  | k350+1, s346, s347, s348, s349 => (bif decide (s347 < ((y14).1)) then ((rec_code_maker_node s346 m_l s349 s348 o1).bind fun y359 => (code_maker_node_L10 n rec_code_maker_node m_l o1 y14 k350 ((y359).1) (IntKind.i64.wrap (s347 + 1)) ((y359).2.2) ((y359).2.1))) else (some (.out (s346, s348, s349))))
def m_code_maker_node : Nat → Int → (List S_api_Node) → (List OpS) → Bool → (List (List UInt8)) → Option (Int × (List OpS) × Bool)
  | 0, _, _, _, _, _ => none
  | n+1, v1_i, m_l, m_out, m_ok, o1 => ((idx m_l v1_i).bind fun x1 => ((m_code_of n x1.f_Op).bind fun y2 => (match y2 with | .c0 y4 => (bif (y4).2 then ((code_maker_node_L0 n (m_code_maker_node n) m_l o1 y4 n (IntKind.i64.wrap (v1_i + 1)) 0 m_ok m_out).bind fun o27 => match o27 with | .out (x32, x33, x34) => (bif decide (((x34).length + 1) * 25 ≤ 140737488355328) then (some (x32, (x34 ++ ([(⟨x1.f_Op, 0, 0⟩ : OpS)] : List OpS)), x33)) else none) | .ret v => some v) else ((m_code_Thread_1 n x1 o1).bind fun y39 => (bif m_ok then (bif decide (((m_out).length + 1) * 25 ≤ 140737488355328) then (some (IntKind.i64.wrap (v1_i + 1), (m_out ++ ([(y39).1] : List OpS)), (y39).2)) else none) else (bif decide (((m_out).length + 1) * 25 ≤ 140737488355328) then (some (IntKind.i64.wrap (v1_i + 1), (m_out ++ ([(y39).1] : List OpS)), false)) else none)))) | .c1 y5 => (bif (y5).2 then ((code_maker_node_L1 n (m_code_maker_node n) m_l o1 y5 n (IntKind.i64.wrap (v1_i + 1)) 0 m_ok m_out).bind fun o60 => match o60 with | .out (x65, x66, x67) => (bif decide (((x67).length + 1) * 25 ≤ 140737488355328) then (some (x65, (x67 ++ ([(⟨x1.f_Op, 0, 0⟩ : OpS)] : List OpS)), x66)) else none) | .ret v => some v) else ((m_code_Thread_1 n x1 o1).bind fun y72 => (bif m_ok then (bif decide (((m_out).length + 1) * 25 ≤ 140737488355328) then (some (IntKind.i64.wrap (v1_i + 1), (m_out ++ ([(y72).1] : List OpS)), (y72).2)) else none) else (bif decide (((m_out).length + 1) * 25 ≤ 140737488355328) then (some (IntKind.i64.wrap (v1_i + 1), (m_out ++ ([(y72).1] : List OpS)), false)) else none)))) | .c2 y6 => (bif (y6).2 then ((code_maker_node_L2 n (m_code_maker_node n) m_l o1 y6 n (IntKind.i64.wrap (v1_i + 1)) 0 m_ok m_out).bind fun o93 => match o93 with | .out (x98, x99, x100) => (bif decide (((x100).length + 1) * 25 ≤ 140737488355328) then (some (x98, (x100 ++ ([(⟨x1.f_Op, 0, 0⟩ : OpS)] : List OpS)), x99)) else none) | .ret v => some v) else ((m_code_Thread_1 n x1 o1).bind fun y105 => (bif m_ok then (bif decide (((m_out).length + 1) * 25 ≤ 140737488355328) then (some (IntKind.i64.wrap (v1_i + 1), (m_out ++ ([(y105).1] : List OpS)), (y105).2)) else none) else (bif decide (((m_out).length + 1) * 25 ≤ 140737488355328) then (some (IntKind.i64.wrap (v1_i + 1), (m_out ++ ([(y105).1] : List OpS)), false)) else none)))) | .c3 y7 => (bif (y7).2 then ((code_maker_node_L3 n (m_code_maker_node n) m_l o1 y7 n (IntKind.i64.wrap (v1_i + 1)) 0 m_ok m_out).bind fun o126 => match o126 with | .out (x131, x132, x133) => (bif decide (((x133).length + 1) * 25 ≤ 140737488355328) then (some (x131, (x133 ++ ([(⟨x1.f_Op, 0, 0⟩ : OpS)] : List OpS)), x132)) else none) | .ret v => some v) else ((m_code_Thread_1 n x1 o1).bind fun y138 => (bif m_ok then (bif decide (((m_out).length + 1) * 25 ≤ 140737488355328) then (some (IntKind.i64.wrap (v1_i + 1), (m_out ++ ([(y138).1] : List OpS)), (y138).2)) else none) else (bif decide (((m_out).length + 1) * 25 ≤ 140737488355328) then (some (IntKind.i64.wrap (v1_i + 1), (m_out ++ ([(y138).1] : List OpS)), false)) else none)))) | .c4 y8 => (bif (y8).2 then ((code_maker_node_L4 n (m_code_maker_node n) m_l o1 y8 n (IntKind.i64.wrap (v1_i + 1)) 0 m_ok m_out).bind fun o159 => match o159 with | .out (x164, x165, x166) => (bif decide (((x166).length + 1) * 25 ≤ 140737488355328) then (some (x164, (x166 ++ ([(⟨x1.f_Op, 0, 0⟩ : OpS)] : List OpS)), x165)) else none) | .ret v => some v) else ((m_code_Thread_1 n x1 o1).bind fun y171 => (bif m_ok then (bif decide (((m_out).length + 1) * 25 ≤ 140737488355328) then (some (IntKind.i64.wrap (v1_i + 1), (m_out ++ ([(y171).1] : List OpS)), (y171).2)) else none) else (bif decide (((m_out).length + 1) * 25 ≤ 140737488355328) then (some (IntKind.i64.wrap (v1_i + 1), (m_out ++ ([(y171).1] : List OpS)), false)) else none)))) | .c5 y9 => (bif (y9).2 then ((code_maker_node_L5 n (m_code_maker_node n) m_l o1 y9 n (IntKind.i64.wrap (v1_i + 1)) 0 m_ok m_out).bind fun o192 => match o192 with | .out (x197, x198, x199) => (bif decide (((x199).length + 1) * 25 ≤ 140737488355328) then (some (x197, (x199 ++ ([(⟨x1.f_Op, 0, 0⟩ : OpS)] : List OpS)), x198)) else none) | .ret v => some v) else ((m_code_Thread_1 n x1 o1).bind fun y204 => (bif m_ok then (bif decide (((m_out).length + 1) * 25 ≤ 140737488355328) then (some (IntKind.i64.wrap (v1_i + 1), (m_out ++ ([(y204).1] : List OpS)), (y204).2)) else none) else (bif decide (((m_out).length + 1) * 25 ≤ 140737488355328) then (some (IntKind.i64.wrap (v1_i + 1), (m_out ++ ([(y204).1] : List OpS)), false)) else none)))) | .c6 y10 => (bif (y10).2 then ((code_maker_node_L6 n (m_code_maker_node n) m_l o1 y10 n (IntKind.i64.wrap (v1_i + 1)) 0 m_ok m_out).bind fun o225 => match o225 with | .out (x230, x231, x232) => (bif decide (((x232).length + 1) * 25 ≤ 140737488355328) then (some (x230, (x232 ++ ([(⟨x1.f_Op, 0, 0⟩ : OpS)] : List OpS)), x231)) else none) | .ret v => some v) else ((m_code_Thread_1 n x1 o1).bind fun y237 => (bif m_ok then (bif decide (((m_out).length + 1) * 25 ≤ 140737488355328) then (some (IntKind.i64.wrap (v1_i + 1), (m_out ++ ([(y237).1] : List OpS)), (y237).2)) else none) else (bif decide (((m_out).length + 1) * 25 ≤ 140737488355328) then (some (IntKind.i64.wrap (v1_i + 1), (m_out ++ ([(y237).1] : List OpS)), false)) else none)))) | .c7 y11 => (bif (y11).2 then ((code_maker_node_L7 n (m_code_maker_node n) m_l o1 y11 n (IntKind.i64.wrap (v1_i + 1)) 0 m_ok m_out).bind fun o258 => match o258 with | .out (x263, x264, x265) => (bif decide (((x265).length + 1) * 25 ≤ 140737488355328) then (some (x263, (x265 ++ ([(⟨x1.f_Op, 0, 0⟩ : OpS)] : List OpS)), x264)) else none) | .ret v => some v) else ((m_code_Thread_1 n x1 o1).bind fun y270 => (bif m_ok then (bif decide (((m_out).length + 1) * 25 ≤ 140737488355328) then (some (IntKind.i64.wrap (v1_i + 1), (m_out ++ ([(y270).1] : List OpS)), (y270).2)) else none) else (bif decide (((m_out).length + 1) * 25 ≤ 140737488355328) then (some (IntKind.i64.wrap (v1_i + 1), (m_out ++ ([(y270).1] : List OpS)), false)) else none)))) | .c8 y12 => (bif (y12).2 then ((code_maker_node_L8 n (m_code_maker_node n) m_l o1 y12 n (IntKind.i64.wrap (v1_i + 1)) 0 m_ok m_out).bind fun o291 => match o291 with | .out (x296, x297, x298) => (bif decide (((x298).length + 1) * 25 ≤ 140737488355328) then (some (x296, (x298 ++ ([(⟨x1.f_Op, 0, 0⟩ : OpS)] : List OpS)), x297)) else none) | .ret v => some v) else ((m_code_Thread_1 n x1 o1).bind fun y303 => (bif m_ok then (bif decide (((m_out).length + 1) * 25 ≤ 140737488355328) then (some (IntKind.i64.wrap (v1_i + 1), (m_out ++ ([(y303).1] : List OpS)), (y303).2)) else none) else (bif decide (((m_out).length + 1) * 25 ≤ 140737488355328) then (some (IntKind.i64.wrap (v1_i + 1), (m_out ++ ([(y303).1] : List OpS)), false)) else none)))) | .c9 y13 => (bif (y13).2 then ((code_maker_node_L9 n (m_code_maker_node n) m_l o1 y13 n (IntKind.i64.wrap (v1_i + 1)) 0 m_ok m_out).bind fun o324 => match o324 with | .out (x329, x330, x331) => (bif decide (((x331).length + 1) * 25 ≤ 140737488355328) then (some (x329, (x331 ++ ([(⟨x1.f_Op, 0, 0⟩ : OpS)] : List OpS)), x330)) else none) | .ret v => some v) else ((m_code_Thread_1 n x1 o1).bind fun y336 => (bif m_ok then (bif decide (((m_out).length + 1) * 25 ≤ 140737488355328) then (some (IntKind.i64.wrap (v1_i + 1), (m_out ++ ([(y336).1] : List OpS)), (y336).2)) else none) else (bif decide (((m_out).length + 1) * 25 ≤ 140737488355328) then (some (IntKind.i64.wrap (v1_i + 1), (m_out ++ ([(y336).1] : List OpS)), false)) else none)))) | .c10 y14 => (bif (y14).2 then ((code_maker_node_L10 n (m_code_maker_node n) m_l o1 y14 n (IntKind.i64.wrap (v1_i + 1)) 0 m_ok m_out).bind fun o357 => match o357 with | .out (x362, x363, x364) => (bif decide (((x364).length + 1) * 25 ≤ 140737488355328) then (some (x362, (x364 ++ ([(⟨x1.f_Op, 0, 0⟩ : OpS)] : List OpS)), x363)) else none) | .ret v => some v) else ((m_code_Thread_1 n x1 o1).bind fun y369 => (bif m_ok then (bif decide (((m_out).length + 1) * 25 ≤ 140737488355328) then (some (IntKind.i64.wrap (v1_i + 1), (m_out ++ ([(y369).1] : List OpS)), (y369).2)) else none) else (bif decide (((m_out).length + 1) * 25 ≤ 140737488355328) then (some (IntKind.i64.wrap (v1_i + 1), (m_out ++ ([(y369).1] : List OpS)), false)) else none)))))))

def m_code_made : Nat → (List S_api_Node) → (List (List UInt8)) → Option ((List OpS) × Bool)
  | 0, _, _ => none
  | n+1, v0_l, o0 => ((m_expr_Right n v0_l).bind fun y1 => (bif y1 then ((m_code_maker_node n 0 v0_l ([] : List OpS) true o0).bind fun y4 => (bif (y4).2.2 then (some ((y4).2.1, true)) else (some (([] : List OpS), false)))) else (some (([] : List OpS), false))))

def m_code_Thread : Nat → (List S_api_Node) → (List (List UInt8)) → Option ((List OpS) × Bool)
  | 0, _, _ => none
  | n+1, v0_l, v1_regs => ((m_code_made n v0_l v1_regs).bind fun y1 => (some ((y1).1, (y1).2)))

def code_below_L1 (n : Nat)  (v0_mod : Int) (x11 : (List Int)) : Nat → Int → Option (LR Unit Bool)
  | 0, _ => none
  | k13+1, s12 => (bif decide (s12 < (((x11).length : Nat) : Int)) then ((idx x11 s12).bind fun x22 => (bif decide (x22 < 0) then (some (.ret false)) else (bif decide (v0_mod ≤ x22) then (some (.ret false)) else (code_below_L1 n v0_mod x11 k13 (IntKind.i64.wrap (s12 + 1)))))) else (some (.out ())))
def code_below_L0 (n : Nat)  (v0_mod : Int) (v1_lists : (List (List Int))) : Nat → Int → Option (LR Unit Bool)
  | 0, _ => none
  | k2+1, s1 => (bif decide (s1 < (((v1_lists).length : Nat) : Int)) then ((idx v1_lists s1).bind fun x11 => ((code_below_L1 n v0_mod x11 n 0).bind fun o20 => match o20 with | .out _ => (code_below_L0 n v0_mod v1_lists k2 (IntKind.i64.wrap (s1 + 1))) | .ret v => some (.ret v))) else (some (.out ())))
def m_code_below : Nat → Int → (List (List Int)) → Option Bool
  | 0, _, _ => none
  | n+1, v0_mod, v1_lists => ((code_below_L0 n v0_mod v1_lists n 0).bind fun o9 => match o9 with | .out _ => (some true) | .ret v => some v)

def m_code_truth : Nat → Bool → Option Int
  | 0, _ => none
  | n+1, v0_is => (bif v0_is then (some 1) else (some 0))

def m_code_of_1 : Nat → Int → Int → Int → Option Int
  | 0, _, _, _ => none
  | n+1, v0_, v1_b, v2_ => ((m_code_truth n (v1_b == 0)).bind fun y1 => (some y1))

def m_code_of_10 : Nat → Int → Int → Int → Option Int
  | 0, _, _, _ => none
  | n+1, v0_a, v1_b, v2_ => ((m_code_truth n ((IntKind.i64.wrap (v0_a + v1_b)) != 0)).bind fun y1 => (some y1))

def m_code_of_2 : Nat → Int → Int → Int → Option Int
  | 0, _, _, _ => none
  | n+1, v0_a, v1_b, v2_mod => (bif decide (v2_mod = 0) then none else (some (Int.tmod (IntKind.i64.wrap (v0_a + v1_b)) v2_mod)))

def m_code_of_3 : Nat → Int → Int → Int → Option Int
  | 0, _, _, _ => none
  | n+1, v0_a, v1_b, v2_mod => (bif decide (v2_mod = 0) then none else (some (Int.tmod (IntKind.i64.wrap ((IntKind.i64.wrap (v0_a + v2_mod)) - v1_b)) v2_mod)))

def m_code_of_4 : Nat → Int → Int → Int → Option Int
  | 0, _, _, _ => none
  | n+1, v0_a, v1_b, v2_mod => (bif decide (v2_mod = 0) then none else (some (Int.tmod (IntKind.i64.wrap (v0_a * v1_b)) v2_mod)))

def m_code_of_5 : Nat → Int → Int → Int → Option Int
  | 0, _, _, _ => none
  | n+1, v0_a, v1_b, v2_ => ((m_code_truth n (v0_a == v1_b)).bind fun y1 => (some y1))

def m_code_of_6 : Nat → Int → Int → Int → Option Int
  | 0, _, _, _ => none
  | n+1, v0_a, v1_b, v2_ => ((m_code_truth n (v0_a != v1_b)).bind fun y1 => (some y1))

def m_code_of_7 : Nat → Int → Int → Int → Option Int
  | 0, _, _, _ => none
  | n+1, v0_a, v1_b, v2_ => ((m_code_truth n (decide (v0_a < v1_b))).bind fun y1 => (some y1))

def m_code_of_8 : Nat → Int → Int → Int → Option Int
  | 0, _, _, _ => none
  | n+1, v0_a, v1_b, v2_ => ((m_code_truth n (decide (v0_a ≤ v1_b))).bind fun y1 => (some y1))

def m_code_of_9 : Nat → Int → Int → Int → Option Int
  | 0, _, _, _ => none
  | n+1, v0_a, v1_b, v2_ => ((m_code_truth n ((IntKind.i64.wrap (v0_a * v1_b)) != 0)).bind fun y1 => (some y1))

def code_Value_L0 (n : Nat)  (v3_all : (List (List Int))) : Nat → Int → (List Int) → Option (LR (List Int) (Int × Bool))
  | 0, _, _ => none
  | k11+1, s9, s10 => (bif decide (s9 < (((v3_all).length : Nat) : Int)) then ((idx v3_all s9).bind fun x20 => (bif decide (((s10).length + 1) * 9 ≤ 140737488355328) then (code_Value_L0 n v3_all k11 (IntKind.i64.wrap (s9 + 1)) (s10 ++ ([(((x20).length : Nat) : Int)] : List Int))) else none)) else (some (.out s10)))
def code_Value_L1 (n : Nat)  (v0_l : (List OpS)) (v1_mod : Int) (v2_own : (List Int)) (v3_all : (List (List Int))) (v4_mem : (List Int)) : Nat → Int → (List Int) → Option (LR (List Int) (Int × Bool))
  | 0, _, _ => none
  | k31+1, s29, s30 => (bif decide (s29 < (((v0_l).length : Nat) : Int)) then ((idx v0_l s29).bind fun x40 => (bif (x40.op == 1) then (bif decide (v1_mod = 0) then none else (bif decide (((s30).length + 1) * 9 ≤ 140737488355328) then (code_Value_L1 n v0_l v1_mod v2_own v3_all v4_mem k31 (IntKind.i64.wrap (s29 + 1)) (s30 ++ ([(Int.tmod x40.n v1_mod)] : List Int))) else none)) else (bif (x40.op == 2) then ((idx v2_own x40.n).bind fun x47 => (bif decide (((s30).length + 1) * 9 ≤ 140737488355328) then (code_Value_L1 n v0_l v1_mod v2_own v3_all v4_mem k31 (IntKind.i64.wrap (s29 + 1)) (s30 ++ ([x47] : List Int))) else none)) else (bif (x40.op == 3) then ((idx v4_mem x40.n).bind fun x52 => (bif decide (((s30).length + 1) * 9 ≤ 140737488355328) then (code_Value_L1 n v0_l v1_mod v2_own v3_all v4_mem k31 (IntKind.i64.wrap (s29 + 1)) (s30 ++ ([x52] : List Int))) else none)) else (bif (x40.op == 4) then ((idx v3_all x40.t).bind fun x57 => ((idx x57 x40.n).bind fun x58 => (bif decide (((s30).length + 1) * 9 ≤ 140737488355328) then (code_Value_L1 n v0_l v1_mod v2_own v3_all v4_mem k31 (IntKind.i64.wrap (s29 + 1)) (s30 ++ ([x58] : List Int))) else none))) else ((m_code_of n x40.op).bind fun y62 => (match y62 with | .c0 y64 => none | .c1 y65 => ((idx s30 (IntKind.i64.wrap ((IntKind.i64.wrap ((IntKind.i64.wrap ((((s30).length : Nat) : Int) - 1)) + 1)) - ((y65).1)))).bind fun x77 => ((idx s30 (IntKind.i64.wrap ((((s30).length : Nat) : Int) - 1))).bind fun x78 => ((m_code_of_10 n x77 x78 v1_mod).bind fun y79 => ((idx s30 (IntKind.i64.wrap ((IntKind.i64.wrap ((IntKind.i64.wrap ((((s30).length : Nat) : Int) - 1)) + 1)) - ((y65).1)))).bind fun x81 => (bif (decide (0 ≤ (IntKind.i64.wrap ((IntKind.i64.wrap ((IntKind.i64.wrap ((IntKind.i64.wrap ((((s30).length : Nat) : Int) - 1)) + 1)) - ((y65).1))) + 1))) && decide ((IntKind.i64.wrap ((IntKind.i64.wrap ((IntKind.i64.wrap ((IntKind.i64.wrap ((((s30).length : Nat) : Int) - 1)) + 1)) - ((y65).1))) + 1)) ≤ ((((List.set s30 (IntKind.i64.wrap ((IntKind.i64.wrap ((IntKind.i64.wrap ((((s30).length : Nat) : Int) - 1)) + 1)) - ((y65).1))).toNat y79)).length : Nat) : Int))) then (code_Value_L1 n v0_l v1_mod v2_own v3_all v4_mem k31 (IntKind.i64.wrap (s29 + 1)) (List.take ((IntKind.i64.wrap ((IntKind.i64.wrap ((IntKind.i64.wrap ((IntKind.i64.wrap ((((s30).length : Nat) : Int) - 1)) + 1)) - ((y65).1))) + 1)).toNat) (List.set s30 (IntKind.i64.wrap ((IntKind.i64.wrap ((IntKind.i64.wrap ((((s30).length : Nat) : Int) - 1)) + 1)) - ((y65).1))).toNat y79))) else none))))) | .c2 y66 => ((idx s30 (IntKind.i64.wrap ((IntKind.i64.wrap ((IntKind.i64.wrap ((((s30).length : Nat) : Int) - 1)) + 1)) - ((y66).1)))).bind fun x85 => ((idx s30 (IntKind.i64.wrap ((((s30).length : Nat) : Int) - 1))).bind fun x86 => ((m_code_of_9 n x85 x86 v1_mod).bind fun y87 => ((idx s30 (IntKind.i64.wrap ((IntKind.i64.wrap ((IntKind.i64.wrap ((((s30).length : Nat) : Int) - 1)) + 1)) - ((y66).1)))).bind fun x89 => (bif (decide (0 ≤ (IntKind.i64.wrap ((IntKind.i64.wrap ((IntKind.i64.wrap ((IntKind.i64.wrap ((((s30).length : Nat) : Int) - 1)) + 1)) - ((y66).1))) + 1))) && decide ((IntKind.i64.wrap ((IntKind.i64.wrap ((IntKind.i64.wrap ((IntKind.i64.wrap ((((s30).length : Nat) : Int) - 1)) + 1)) - ((y66).1))) + 1)) ≤ ((((List.set s30 (IntKind.i64.wrap ((IntKind.i64.wrap ((IntKind.i64.wrap ((((s30).length : Nat) : Int) - 1)) + 1)) - ((y66).1))).toNat y87)).length : Nat) : Int))) then (code_Value_L1 n v0_l v1_mod v2_own v3_all v4_mem k31 (IntKind.i64.wrap (s29 + 1)) (List.take ((IntKind.i64.wrap ((IntKind.i64.wrap ((IntKind.i64.wrap ((IntKind.i64.wrap ((((s30).length : Nat) : Int) - 1)) + 1)) - ((y66).1))) + 1)).toNat) (List.set s30 (IntKind.i64.wrap ((IntKind.i64.wrap ((IntKind.i64.wrap ((((s30).length : Nat) : Int) - 1)) + 1)) - ((y66).1))).toNat y87))) else none))))) | .c3 y67 => ((idx s30 (IntKind.i64.wrap ((IntKind.i64.wrap ((IntKind.i64.wrap ((((s30).length : Nat) : Int) - 1)) + 1)) - ((y67).1)))).bind fun x93 => ((idx s30 (IntKind.i64.wrap ((((s30).length : Nat) : Int) - 1))).bind fun x94 => ((m_code_of_8 n x93 x94 v1_mod).bind fun y95 => ((idx s30 (IntKind.i64.wrap ((IntKind.i64.wrap ((IntKind.i64.wrap ((((s30).length : Nat) : Int) - 1)) + 1)) - ((y67).1)))).bind fun x97 => (bif (decide (0 ≤ (IntKind.i64.wrap ((IntKind.i64.wrap ((IntKind.i64.wrap ((IntKind.i64.wrap ((((s30).length : Nat) : Int) - 1)) + 1)) - ((y67).1))) + 1))) && decide ((IntKind.i64.wrap ((IntKind.i64.wrap ((IntKind.i64.wrap ((IntKind.i64.wrap ((((s30).length : Nat) : Int) - 1)) + 1)) - ((y67).1))) + 1)) ≤ ((((List.set s30 (IntKind.i64.wrap ((IntKind.i64.wrap ((IntKind.i64.wrap ((((s30).length : Nat) : Int) - 1)) + 1)) - ((y67).1))).toNat y95)).length : Nat) : Int))) then (code_Value_L1 n v0_l v1_mod v2_own v3_all v4_mem k31 (IntKind.i64.wrap (s29 + 1)) (List.take ((IntKind.i64.wrap ((IntKind.i64.wrap ((IntKind.i64.wrap ((IntKind.i64.wrap ((((s30).length : Nat) : Int) - 1)) + 1)) - ((y67).1))) + 1)).toNat) (List.set s30 (IntKind.i64.wrap ((IntKind.i64.wrap ((IntKind.i64.wrap ((((s30).length : Nat) : Int) - 1)) + 1)) - ((y67).1))).toNat y95))) else none))))) | .c4 y68 => ((idx s30 (IntKind.i64.wrap ((IntKind.i64.wrap ((IntKind.i64.wrap ((((s30).length : Nat) : Int) - 1)) + 1)) - ((y68).1)))).bind fun x101 => ((idx s30 (IntKind.i64.wrap ((((s30).length : Nat) : Int) - 1))).bind fun x102 => ((m_code_of_7 n x101 x102 v1_mod).bind fun y103 => ((idx s30 (IntKind.i64.wrap ((IntKind.i64.wrap ((IntKind.i64.wrap ((((s30).length : Nat) : Int) - 1)) + 1)) - ((y68).1)))).bind fun x105 => (bif (decide (0 ≤ (IntKind.i64.wrap ((IntKind.i64.wrap ((IntKind.i64.wrap ((IntKind.i64.wrap ((((s30).length : Nat) : Int) - 1)) + 1)) - ((y68).1))) + 1))) && decide ((IntKind.i64.wrap ((IntKind.i64.wrap ((IntKind.i64.wrap ((IntKind.i64.wrap ((((s30).length : Nat) : Int) - 1)) + 1)) - ((y68).1))) + 1)) ≤ ((((List.set s30 (IntKind.i64.wrap ((IntKind.i64.wrap ((IntKind.i64.wrap ((((s30).length : Nat) : Int) - 1)) + 1)) - ((y68).1))).toNat y103)).length : Nat) : Int))) then (code_Value_L1 n v0_l v1_mod v2_own v3_all v4_mem k31 (IntKind.i64.wrap (s29 + 1)) (List.take ((IntKind.i64.wrap ((IntKind.i64.wrap ((IntKind.i64.wrap ((IntKind.i64.wrap ((((s30).length : Nat) : Int) - 1)) + 1)) - ((y68).1))) + 1)).toNat) (List.set s30 (IntKind.i64.wrap ((IntKind.i64.wrap ((IntKind.i64.wrap ((((s30).length : Nat) : Int) - 1)) + 1)) - ((y68).1))).toNat y103))) else none))))) | .c5 y69 => ((idx s30 (IntKind.i64.wrap ((IntKind.i64.wrap ((IntKind.i64.wrap ((((s30).length : Nat) : Int) - 1)) + 1)) - ((y69).1)))).bind fun x109 => ((idx s30 (IntKind.i64.wrap ((((s30).length : Nat) : Int) - 1))).bind fun x110 => ((m_code_of_6 n x109 x110 v1_mod).bind fun y111 => ((idx s30 (IntKind.i64.wrap ((IntKind.i64.wrap ((IntKind.i64.wrap ((((s30).length : Nat) : Int) - 1)) + 1)) - ((y69).1)))).bind fun x113 => (bif (decide (0 ≤ (IntKind.i64.wrap ((IntKind.i64.wrap ((IntKind.i64.wrap ((IntKind.i64.wrap ((((s30).length : Nat) : Int) - 1)) + 1)) - ((y69).1))) + 1))) && decide ((IntKind.i64.wrap ((IntKind.i64.wrap ((IntKind.i64.wrap ((IntKind.i64.wrap ((((s30).length : Nat) : Int) - 1)) + 1)) - ((y69).1))) + 1)) ≤ ((((List.set s30 (IntKind.i64.wrap ((IntKind.i64.wrap ((IntKind.i64.wrap ((((s30).length : Nat) : Int) - 1)) + 1)) - ((y69).1))).toNat y111)).length : Nat) : Int))) then (code_Value_L1 n v0_l v1_mod v2_own v3_all v4_mem k31 (IntKind.i64.wrap (s29 + 1)) (List.take ((IntKind.i64.wrap ((IntKind.i64.wrap ((IntKind.i64.wrap ((IntKind.i64.wrap ((((s30).length : Nat) : Int) - 1)) + 1)) - ((y69).1))) + 1)).toNat) (List.set s30 (IntKind.i64.wrap ((IntKind.i64.wrap ((IntKind.i64.wrap ((((s30).length : Nat) : Int) - 1)) + 1)) - ((y69).1))).toNat y111))) else none))))) | .c6 y70 => ((idx s30 (IntKind.i64.wrap ((IntKind.i64.wrap ((IntKind.i64.wrap ((((s30).length : Nat) : Int) - 1)) + 1)) - ((y70).1)))).bind fun x117 => ((idx s30 (IntKind.i64.wrap ((((s30).length : Nat) : Int) - 1))).bind fun x118 => ((m_code_of_5 n x117 x118 v1_mod).bind fun y119 => ((idx s30 (IntKind.i64.wrap ((IntKind.i64.wrap ((IntKind.i64.wrap ((((s30).length : Nat) : Int) - 1)) + 1)) - ((y70).1)))).bind fun x121 => (bif (decide (0 ≤ (IntKind.i64.wrap ((IntKind.i64.wrap ((IntKind.i64.wrap ((IntKind.i64.wrap ((((s30).length : Nat) : Int) - 1)) + 1)) - ((y70).1))) + 1))) && decide ((IntKind.i64.wrap ((IntKind.i64.wrap ((IntKind.i64.wrap ((IntKind.i64.wrap ((((s30).length : Nat) : Int) - 1)) + 1)) - ((y70).1))) + 1)) ≤ ((((List.set s30 (IntKind.i64.wrap ((IntKind.i64.wrap ((IntKind.i64.wrap ((((s30).length : Nat) : Int) - 1)) + 1)) - ((y70).1))).toNat y119)).length : Nat) : Int))) then (code_Value_L1 n v0_l v1_mod v2_own v3_all v4_mem k31 (IntKind.i64.wrap (s29 + 1)) (List.take ((IntKind.i64.wrap ((IntKind.i64.wrap ((IntKind.i64.wrap ((IntKind.i64.wrap ((((s30).length : Nat) : Int) - 1)) + 1)) - ((y70).1))) + 1)).toNat) (List.set s30 (IntKind.i64.wrap ((IntKind.i64.wrap ((IntKind.i64.wrap ((((s30).length : Nat) : Int) - 1)) + 1)) - ((y70).1))).toNat y119))) else none))))) | .c7 y71 => ((idx s30 (IntKind.i64.wrap ((IntKind.i64.wrap ((IntKind.i64.wrap ((((s30).length : Nat) : Int) - 1)) + 1)) - ((y71).1)))).bind fun x125 => ((idx s30 (IntKind.i64.wrap ((((s30).length : Nat) : Int) - 1))).bind fun x126 => ((m_code_of_4 n x125 x126 v1_mod).bind fun y127 => ((idx s30 (IntKind.i64.wrap ((IntKind.i64.wrap ((IntKind.i64.wrap ((((s30).length : Nat) : Int) - 1)) + 1)) - ((y71).1)))).bind fun x129 => (bif (decide (0 ≤ (IntKind.i64.wrap ((IntKind.i64.wrap ((IntKind.i64.wrap ((IntKind.i64.wrap ((((s30).length : Nat) : Int) - 1)) + 1)) - ((y71).1))) + 1))) && decide ((IntKind.i64.wrap ((IntKind.i64.wrap ((IntKind.i64.wrap ((IntKind.i64.wrap ((((s30).length : Nat) : Int) - 1)) + 1)) - ((y71).1))) + 1)) ≤ ((((List.set s30 (IntKind.i64.wrap ((IntKind.i64.wrap ((IntKind.i64.wrap ((((s30).length : Nat) : Int) - 1)) + 1)) - ((y71).1))).toNat y127)).length : Nat) : Int))) then (code_Value_L1 n v0_l v1_mod v2_own v3_all v4_mem k31 (IntKind.i64.wrap (s29 + 1)) (List.take ((IntKind.i64.wrap ((IntKind.i64.wrap ((IntKind.i64.wrap ((IntKind.i64.wrap ((((s30).length : Nat) : Int) - 1)) + 1)) - ((y71).1))) + 1)).toNat) (List.set s30 (IntKind.i64.wrap ((IntKind.i64.wrap ((IntKind.i64.wrap ((((s30).length : Nat) : Int) - 1)) + 1)) - ((y71).1))).toNat y127))) else none))))) | .c8 y72 => ((idx s30 (IntKind.i64.wrap ((IntKind.i64.wrap ((IntKind.i64.wrap ((((s30).length : Nat) : Int) - 1)) + 1)) - ((y72).1)))).bind fun x133 => ((idx s30 (IntKind.i64.wrap ((((s30).length : Nat) : Int) - 1))).bind fun x134 => ((m_code_of_3 n x133 x134 v1_mod).bind fun y135 => ((idx s30 (IntKind.i64.wrap ((IntKind.i64.wrap ((IntKind.i64.wrap ((((s30).length : Nat) : Int) - 1)) + 1)) - ((y72).1)))).bind fun x137 => (bif (decide (0 ≤ (IntKind.i64.wrap ((IntKind.i64.wrap ((IntKind.i64.wrap ((IntKind.i64.wrap ((((s30).length : Nat) : Int) - 1)) + 1)) - ((y72).1))) + 1))) && decide ((IntKind.i64.wrap ((IntKind.i64.wrap ((IntKind.i64.wrap ((IntKind.i64.wrap ((((s30).length : Nat) : Int) - 1)) + 1)) - ((y72).1))) + 1)) ≤ ((((List.set s30 (IntKind.i64.wrap ((IntKind.i64.wrap ((IntKind.i64.wrap ((((s30).length : Nat) : Int) - 1)) + 1)) - ((y72).1))).toNat y135)).length : Nat) : Int))) then (code_Value_L1 n v0_l v1_mod v2_own v3_all v4_mem k31 (IntKind.i64.wrap (s29 + 1)) (List.take ((IntKind.i64.wrap ((IntKind.i64.wrap ((IntKind.i64.wrap ((IntKind.i64.wrap ((((s30).length : Nat) : Int) - 1)) + 1)) - ((y72).1))) + 1)).toNat) (List.set s30 (IntKind.i64.wrap ((IntKind.i64.wrap ((IntKind.i64.wrap ((((s30).length : Nat) : Int) - 1)) + 1)) - ((y72).1))).toNat y135))) else none))))) | .c9 y73 => ((idx s30 (IntKind.i64.wrap ((IntKind.i64.wrap ((IntKind.i64.wrap ((((s30).length : Nat) : Int) - 1)) + 1)) - ((y73).1)))).bind fun x141 => ((idx s30 (IntKind.i64.wrap ((((s30).length : Nat) : Int) - 1))).bind fun x142 => ((m_code_of_2 n x141 x142 v1_mod).bind fun y143 => ((idx s30 (IntKind.i64.wrap ((IntKind.i64.wrap ((IntKind.i64.wrap ((((s30).length : Nat) : Int) - 1)) + 1)) - ((y73).1)))).bind fun x145 => (bif (decide (0 ≤ (IntKind.i64.wrap ((IntKind.i64.wrap ((IntKind.i64.wrap ((IntKind.i64.wrap ((((s30).length : Nat) : Int) - 1)) + 1)) - ((y73).1))) + 1))) && decide ((IntKind.i64.wrap ((IntKind.i64.wrap ((IntKind.i64.wrap ((IntKind.i64.wrap ((((s30).length : Nat) : Int) - 1)) + 1)) - ((y73).1))) + 1)) ≤ ((((List.set s30 (IntKind.i64.wrap ((IntKind.i64.wrap ((IntKind.i64.wrap ((((s30).length : Nat) : Int) - 1)) + 1)) - ((y73).1))).toNat y143)).length : Nat) : Int))) then (code_Value_L1 n v0_l v1_mod v2_own v3_all v4_mem k31 (IntKind.i64.wrap (s29 + 1)) (List.take ((IntKind.i64.wrap ((IntKind.i64.wrap ((IntKind.i64.wrap ((IntKind.i64.wrap ((((s30).length : Nat) : Int) - 1)) + 1)) - ((y73).1))) + 1)).toNat) (List.set s30 (IntKind.i64.wrap ((IntKind.i64.wrap ((IntKind.i64.wrap ((((s30).length : Nat) : Int) - 1)) + 1)) - ((y73).1))).toNat y143))) else none))))) | .c10 y74 => ((idx s30 (IntKind.i64.wrap ((IntKind.i64.wrap ((IntKind.i64.wrap ((((s30).length : Nat) : Int) - 1)) + 1)) - ((y74).1)))).bind fun x149 => ((idx s30 (IntKind.i64.wrap ((((s30).length : Nat) : Int) - 1))).bind fun x150 => ((m_code_of_1 n x149 x150 v1_mod).bind fun y151 => ((idx s30 (IntKind.i64.wrap ((IntKind.i64.wrap ((IntKind.i64.wrap ((((s30).length : Nat) : Int) - 1)) + 1)) - ((y74).1)))).bind fun x153 => (bif (decide (0 ≤ (IntKind.i64.wrap ((IntKind.i64.wrap ((IntKind.i64.wrap ((IntKind.i64.wrap ((((s30).length : Nat) : Int) - 1)) + 1)) - ((y74).1))) + 1))) && decide ((IntKind.i64.wrap ((IntKind.i64.wrap ((IntKind.i64.wrap ((IntKind.i64.wrap ((((s30).length : Nat) : Int) - 1)) + 1)) - ((y74).1))) + 1)) ≤ ((((List.set s30 (IntKind.i64.wrap ((IntKind.i64.wrap ((IntKind.i64.wrap ((((s30).length : Nat) : Int) - 1)) + 1)) - ((y74).1))).toNat y151)).length : Nat) : Int))) then (code_Value_L1 n v0_l v1_mod v2_own v3_all v4_mem k31 (IntKind.i64.wrap (s29 + 1)) (List.take ((IntKind.i64.wrap ((IntKind.i64.wrap ((IntKind.i64.wrap ((IntKind.i64.wrap ((((s30).length : Nat) : Int) - 1)) + 1)) - ((y74).1))) + 1)).toNat) (List.set s30 (IntKind.i64.wrap ((IntKind.i64.wrap ((IntKind.i64.wrap ((((s30).length : Nat) : Int) - 1)) + 1)) - ((y74).1))).toNat y151))) else none)))))))))))) else (some (.out s30)))
def m_code_Value : Nat → (List OpS) → Int → (List Int) → (List (List Int)) → (List Int) → Option (Int × Bool)
  | 0, _, _, _, _, _ => none
  | n+1, v0_l, v1_mod, v2_own, v3_all, v4_mem => (bif decide (v1_mod < 2) then (some (0, false)) else (bif decide (16 < v1_mod) then (some (0, false)) else ((m_code_below n v1_mod ([v2_own, v4_mem] : List (List Int))).bind fun y3 => (bif y3 then ((m_code_below n v1_mod v3_all).bind fun y6 => (bif y6 then ((code_Value_L0 n v3_all n 0 ([] : List Int)).bind fun o18 => match o18 with | .out x25 => ((m_code_Right n v0_l x25 (((v2_own).length : Nat) : Int) (((v4_mem).length : Nat) : Int)).bind fun y26 => (bif y26 then ((code_Value_L1 n v0_l v1_mod v2_own v3_all v4_mem n 0 ([] : List Int)).bind fun o38 => match o38 with | .out x158 => ((idx x158 0).bind fun x159 => (some (x159, true))) | .ret v => some v) else (some (0, false)))) | .ret v => some v) else (some (0, false)))) else (some (0, false))))))

def law06_CodeBounds_L0 (n : Nat)  (v1_mod : Int) (v2_own : (List Int)) : Nat → Int → (List Int) → Option (LR (List Int) Bool)
  | 0, _, _ => none
  | k12+1, s10, s11 => (bif decide (s10 < (((v2_own).length : Nat) : Int)) then (bif decide (s10 < 3) then ((idx v2_own s10).bind fun x22 => (bif decide ((IntKind.i64.wrap (2 + (Int.tmod (IntKind.i64.wrap (v1_mod)) 15))) = 0) then none else ((idx s11 s10).bind fun x24 => (law06_CodeBounds_L0 n v1_mod v2_own k12 (IntKind.i64.wrap (s10 + 1)) (List.set s11 (s10).toNat (Int.tmod (IntKind.i64.wrap (x22)) (IntKind.i64.wrap (2 + (Int.tmod (IntKind.i64.wrap (v1_mod)) 15))))))))) else (some (.out s11))) else (some (.out s11)))
def m_law06_CodeBounds : Nat → (List S_api_Node) → Int → (List Int) → Option Bool
  | 0, _, _, _ => none
  | n+1, v0_l, v1_mod, v2_own => ((m_ref02_Light n v0_l).bind fun y1 => (bif y1 then (bif decide (20 < (((v2_own).length : Nat) : Int)) then ((m_law06_known n ).bind fun y5 => (some y5)) else ((m_code_Thread n v0_l ([([97] : List UInt8), ([98] : List UInt8), ([114, 49] : List UInt8)] : List (List UInt8))).bind fun y7 => (bif (y7).2 then ((law06_CodeBounds_L0 n v1_mod v2_own n 0 ([0, 0, 0] : List Int)).bind fun o19 => match o19 with | .out x27 => ((m_code_Value n ((y7).1) (IntKind.i64.wrap (2 + (Int.tmod (IntKind.i64.wrap (v1_mod)) 15))) x27 ([] : List (List Int)) ([] : List Int)).bind fun y28 => ((m_code_Depth n ((y7).1)).bind fun y30 => (bif (y28).2 then (bif decide (0 ≤ ((y28).1)) then (bif decide (((y28).1) < (IntKind.i64.wrap (2 + (Int.tmod (IntKind.i64.wrap (v1_mod)) 15)))) then ((m_code_Right n ((y7).1) ([] : List Int) 3 0).bind fun y35 => (bif y35 then (bif decide (1 ≤ y30) then (bif decide (y30 ≤ ((((y7).1).length : Nat) : Int)) then ((m_law06_known n ).bind fun y40 => (some y40)) else (some false)) else (some false)) else (some false))) else (some false)) else (some false)) else (some false)))) | .ret v => some v) else (bif (((((y7).1).length : Nat) : Int) == 0) then ((m_law06_known n ).bind fun y44 => (some y44)) else (some false))))) else ((m_law06_known n ).bind fun y46 => (some y46))))

end Go.Proofs.Ytmnnkeejgkhgpaa
end

section
namespace Go.Proofs.Ytmnnkeejgkhgpaa
set_option linter.unusedVariables false
set_option linter.unusedSimpArgs false

theorem idx_get {α : Type} {l : List α} {i : Nat} (h : i < l.length) : idx l (i : Int) = some l[i] := by rw [idx_nat, List.getElem?_eq_getElem h]
theorem wrap_one (k : Nat) (h : k < 4611686018427387904) : IntKind.i64.wrap ((k : Int) + 1) = ((k + 1 : Nat) : Int) := wrap_succ k (by omega)
theorem bif_decide {α : Type} {p : Prop} [Decidable p] (h : p) (a b : α) : (bif decide p then a else b) = a := by rw [decide_eq_true h]; rfl
theorem bif_not {α : Type} {p : Prop} [Decidable p] (h : ¬ p) (a b : α) : (bif decide p then a else b) = b := by rw [decide_eq_false h]; rfl
theorem natEq (a b : Nat) : ((a : Int) == (b : Int)) = (a == b) := by
  by_cases h : a = b
  · subst h; simp
  · have : ¬ (a : Int) = (b : Int) := by omega
    rw [beq_eq_false_iff_ne.2 h, beq_eq_false_iff_ne.2 this]
theorem natNe (a b : Nat) : ((a : Int) != (b : Int)) = !(a == b) := by rw [← natEq]; rfl
theorem idx_of {α : Type} {l : List α} {i : Int} (h0 : 0 ≤ i) : idx l i = l[i.toNat]? := by unfold idx; rw [decide_eq_true h0]; rfl
end Go.Proofs.Ytmnnkeejgkhgpaa
end

section
namespace Go.Proofs.Ytmnnkeejgkhgpaa
set_option linter.unusedVariables false
set_option linter.unusedSimpArgs false

/-- A loop over a row. -/
theorem loop_list {α σ ρ : Type} (l : List α) (L : Nat → Nat → σ → Option ρ) (F : List α → σ → Option ρ) (Inv : Nat → σ → Prop)
    (h0 : ∀ k s, Inv l.length s → L (k + 1) l.length s = F [] s)
    (h1 : ∀ k i s x, i < l.length → l[i]? = some x → Inv i s → (∀ s', Inv (i + 1) s' → L k (i + 1) s' = F (l.drop (i + 1)) s') → L (k + 1) i s = F (x :: l.drop (i + 1)) s) :
    ∀ (m k i : Nat) (s : σ), i + m = l.length → m < k → Inv i s → L k i s = F (l.drop i) s := by
  intro m
  induction m with
  | zero =>
    intro k i s hi hk hs
    obtain ⟨k, rfl⟩ : ∃ j, k = j + 1 := ⟨k - 1, by omega⟩
    obtain rfl : i = l.length := by omega
    rw [h0 k s hs, List.drop_length]
  | succ m ih =>
    intro k i s hi hk hs
    obtain ⟨k, rfl⟩ : ∃ j, k = j + 1 := ⟨k - 1, by omega⟩
    have hlt : i < l.length := by omega
    rw [h1 k i s l[i] hlt (List.getElem?_eq_getElem hlt) hs (fun s' hs' => ih k (i + 1) s' (by omega) (by omega) hs'), List.drop_eq_getElem_cons hlt]
theorem loop_list0 {α σ ρ : Type} (l : List α) (L : Nat → Nat → σ → Option ρ) (F : List α → σ → Option ρ) (Inv : Nat → σ → Prop) {k : Nat} {s : σ} (hk : l.length < k) (hs : Inv 0 s)
    (h0 : ∀ k s, Inv l.length s → L (k + 1) l.length s = F [] s)
    (h1 : ∀ k i s x, i < l.length → l[i]? = some x → Inv i s → (∀ s', Inv (i + 1) s' → L k (i + 1) s' = F (l.drop (i + 1)) s') → L (k + 1) i s = F (x :: l.drop (i + 1)) s) :
    L k 0 s = F l s := loop_list l L F Inv h0 h1 l.length k 0 s (by omega) hk hs
theorem idx_some {α : Type} {l : List α} {i : Nat} {x : α} (h : l[i]? = some x) : idx l (i : Int) = some x := by rw [idx_nat, h]

theorem op_cases (op : Int) : op < 1 ∨ 15 ≤ op ∨ op = 1 ∨ op = 2 ∨ op = 3 ∨ op = 4 ∨ op = 5 ∨ op = 6 ∨ op = 7 ∨ op = 8 ∨ op = 9 ∨ op = 10 ∨ op = 11 ∨ op = 12 ∨ op = 13 ∨ op = 14 := by omega
theorem bif_and {α : Type} (p q : Prop) [Decidable p] [Decidable q] (a b : α) : (bif decide (p ∧ q) then a else b) = bif decide p then bif decide q then a else b else b := by
  by_cases hp : p <;> by_cases hq : q <;> simp [hp, hq]
theorem bif_flip {α : Type} {p q : Prop} [Decidable p] [Decidable q] (h : p ↔ ¬ q) (a b : α) : (bif decide p then a else b) = bif decide q then b else a := by
  by_cases hq : q
  · have : ¬ p := fun hp => h.1 hp hq
    simp [this, hq]
  · have : p := h.2 hq
    simp [this, hq]
theorem bif_band {α : Type} (c d : Bool) (a b : α) : (bif c && d then a else b) = bif c then bif d then a else b else b := by cases c <;> rfl
theorem two_ne {α : Type} (n lim : Int) (a b : α) : (bif decide (n < 0) then b else bif decide (lim ≤ n) then b else a) = bif decide (0 ≤ n ∧ n < lim) then a else b := by
  rw [bif_and, bif_flip (p := 0 ≤ n) (q := n < 0) (by omega), bif_flip (p := n < lim) (q := lim ≤ n) (by omega)]
theorem two_none {α : Type} (n : Int) (a b : α) : (bif decide (n < 0) then b else bif decide (0 ≤ n) then b else a) = b := by
  rw [two_ne]; by_cases h : 0 ≤ n ∧ n < 0
  · omega
  · rw [bif_not h]
theorem u8_range {a : Int} (h : (Lit.int .u8 a).wf = true) : 0 ≤ a ∧ a ≤ 255 := by simpa [Lit.wf, IntKind.min, IntKind.max, IntKind.bits, IntKind.signed] using h
theorem all_list {α : Type} (l : List α) (L : Nat → Nat → Option (LR Unit Bool)) (p : α → Bool) (h0 : ∀ k, L (k + 1) l.length = some (.out ()))
    (h1 : ∀ k i x, i < l.length → l[i]? = some x → L (k + 1) i = bif p x then L k (i + 1) else some (.ret false)) {k : Nat} (hk : l.length < k) : L k 0 = bif l.all p then some (.out ()) else some (.ret false) := by
  refine loop_list0 l (fun k i (_ : Unit) => L k i) (fun l _ => bif l.all p then some (.out ()) else some (.ret false)) (fun _ _ => True) (s := ()) hk trivial (fun k s _ => h0 k) ?_
  intro k i s x hi hx _ ih
  rw [h1 k i x hi hx, ih () trivial, List.all_cons]
  cases p x <;> rfl
theorem map_list {α β ν : Type} (l : List α) (f : α → β) (L : Nat → Nat → List β → Option (LR (List β) ν)) (h0 : ∀ k s, L (k + 1) l.length s = some (.out s))
    (h1 : ∀ k i x s, i < l.length → l[i]? = some x → s.length = i → L (k + 1) i s = L k (i + 1) (s ++ [f x])) {k : Nat} (hk : l.length < k) : L k 0 [] = some (.out (l.map f)) := by
  have := loop_list0 l L (fun l s => some (.out (s ++ l.map f))) (fun i s => s.length = i) (s := []) hk rfl (fun k s _ => by rw [h0 k]; simp) ?_
  · rw [this]; rfl
  · intro k i s x hi hx hs ih
    rw [h1 k i x s hi hx hs, ih _ (by simp [hs])]; simp
end Go.Proofs.Ytmnnkeejgkhgpaa
end

section
namespace Go.Proofs.Ytmnnkeejgkhgpaa
set_option linter.unusedVariables false
set_option linter.unusedSimpArgs false

abbrev Nd := S_api_Node
def kidsF (op : Int) : Int := if 1 ≤ op ∧ op ≤ 4 then 0 else if op = 5 then 1 else if 6 ≤ op ∧ op ≤ 14 then 2 else -1
theorem kids_m (n : Nat) (op : Int) : m_expr_kids (n + 1) op = some (kidsF op) := by
  rcases op_cases op with h | h | h | h | h | h | h | h | h | h | h | h | h | h | h | h
  · have : kidsF op = -1 := by unfold kidsF; rw [if_neg (by omega), if_neg (by omega), if_neg (by omega)]
    rw [m_expr_kids, this, bif_not (show ¬ 1 ≤ op by omega), beq_eq_false_iff_ne.2 (show op ≠ 5 by omega), cond_false, bif_not (show ¬ 6 ≤ op by omega)]
  · have : kidsF op = -1 := by unfold kidsF; rw [if_neg (by omega), if_neg (by omega), if_neg (by omega)]
    rw [m_expr_kids, this, bif_decide (show 1 ≤ op by omega), bif_not (show ¬ op ≤ 4 by omega), beq_eq_false_iff_ne.2 (show op ≠ 5 by omega), cond_false, bif_decide (show 6 ≤ op by omega), bif_not (show ¬ op ≤ 14 by omega)]
  all_goals rw [h]; rfl
/-- An expression as a tree. -/
inductive Tr where
  | leaf (x : Nd)
  | un (x : Nd) (a : Tr)
  | bin (x : Nd) (a b : Tr)
def Tr.flat : Tr → List Nd
  | .leaf x => [x]
  | .un x a => x :: a.flat
  | .bin x a b => x :: (a.flat ++ b.flat)
def Tr.wf : Tr → Prop
  | .leaf x => kidsF x.f_Op = 0
  | .un x a => kidsF x.f_Op = 1 ∧ a.wf
  | .bin x a b => kidsF x.f_Op = 2 ∧ a.wf ∧ b.wf
def Tr.dep : Tr → Nat
  | .leaf _ => 0
  | .un _ a => 1 + a.dep
  | .bin _ a b => 1 + max a.dep b.dep
/-- How many nodes so many expressions take. -/
def endF : List Nd → Nat → Option Nat
  | [], _ => none
  | x :: l, w => if kidsF x.f_Op < 0 then none else if (w : Int) + kidsF x.f_Op - 1 = 0 then some 1 else (endF l ((w : Int) + kidsF x.f_Op - 1).toNat).map (· + 1)
def flats : List Tr → List Nd
  | [] => []
  | t :: ts => t.flat ++ flats ts
theorem kids_cases (op : Int) : kidsF op = -1 ∨ kidsF op = 0 ∨ kidsF op = 1 ∨ kidsF op = 2 := by
  unfold kidsF
  repeat' split
  all_goals omega
theorem of_endF : ∀ (l : List Nd) (w j : Nat), 1 ≤ w → endF l w = some j → ∃ ts : List Tr, ts.length = w ∧ (∀ t ∈ ts, t.wf) ∧ flats ts = l.take j ∧ j ≤ l.length ∧ 1 ≤ j := by
  intro l
  induction l with
  | nil => intro w j _ h; cases h
  | cons x l ih =>
    intro w j hw h
    rw [endF] at h
    rcases kids_cases x.f_Op with g | g | g | g
    · rw [g, if_pos (by omega)] at h; cases h
    all_goals rw [g] at h; rw [if_neg (by omega)] at h
    · by_cases c : w = 1
      · rw [if_pos (by omega)] at h
        obtain rfl := Option.some.inj h
        exact ⟨[.leaf x], by simp [c], by simpa [Tr.wf] using g, by simp [flats, Tr.flat], by simp, by omega⟩
      · rw [if_neg (by omega)] at h
        obtain ⟨j', h1, h2⟩ := Option.map_eq_some_iff.1 h
        obtain ⟨ts, e1, e2, e3, e4, e5⟩ := ih _ j' (by omega) h1
        subst h2
        exact ⟨.leaf x :: ts, by simp [e1]; omega, by simpa [Tr.wf] using ⟨g, e2⟩, by simp [flats, Tr.flat, e3], by simpa using e4, by omega⟩
    · rw [if_neg (by omega)] at h
      obtain ⟨j', h1, h2⟩ := Option.map_eq_some_iff.1 h
      obtain ⟨ts, e1, e2, e3, e4, e5⟩ := ih _ j' (by omega) h1
      subst h2
      match ts, e1, e2, e3 with
      | [], e1, _, _ => simp at e1; omega
      | t :: ts, e1, e2, e3 =>
        exact ⟨.un x t :: ts, by simp at e1 ⊢; omega, by simpa [Tr.wf, g] using e2, by simp only [flats] at e3; simp [flats, Tr.flat, e3], by simpa using e4, by omega⟩
    · rw [if_neg (by omega)] at h
      obtain ⟨j', h1, h2⟩ := Option.map_eq_some_iff.1 h
      obtain ⟨ts, e1, e2, e3, e4, e5⟩ := ih _ j' (by omega) h1
      subst h2
      match ts, e1, e2, e3 with
      | [], e1, _, _ => simp at e1; omega
      | [t], e1, _, _ => simp at e1; omega
      | t :: u :: ts, e1, e2, e3 =>
        refine ⟨.bin x t u :: ts, by simp at e1 ⊢; omega, ?_, by simp only [flats] at e3; simp [flats, Tr.flat, List.append_assoc, e3], by simpa using e4, by omega⟩
        intro v hv
        rcases List.mem_cons.1 hv with rfl | hv
        · exact ⟨g, e2 t (by simp), e2 u (by simp)⟩
        · exact e2 v (by simp [hv])
theorem of_endF1 {l : List Nd} {j : Nat} (h : endF l 1 = some j) : ∃ t : Tr, t.wf ∧ t.flat = l.take j ∧ j ≤ l.length ∧ 1 ≤ j := by
  obtain ⟨ts, e1, e2, e3, e4, e5⟩ := of_endF l 1 j (by omega) h
  match ts, e1, e2, e3 with
  | [t], _, e2, e3 => exact ⟨t, e2 t (by simp), by simpa [flats] using e3, e4, e5⟩
/-- The place behind the expression at a place. -/
def endS (l : List Nd) (i : Int) : Int := if i < 0 then -1 else match endF (l.drop i.toNat) 1 with
  | some j => i + j
  | none => -1
def outI (d : Int) (r : LR Unit Int) : Int := match r with
  | .out _ => d
  | .ret v => v
theorem end_L (n : Nat) (l : List Nd) (hl : l.length < 1000000) : ∀ (m k i w : Nat), i + m = l.length → m < k → 1 ≤ w → w ≤ i + 2 →
    (expr_End_L0 (n + 1) l k (i : Int) (w : Int)).map (outI (-1)) = some (match endF (l.drop i) w with | some j => (i : Int) + j | none => -1) := by
  intro m
  induction m with
  | zero =>
    intro k i w hi hk hw hb
    obtain ⟨k, rfl⟩ : ∃ j, k = j + 1 := ⟨k - 1, by omega⟩
    rw [expr_End_L0, bif_not (by omega), List.drop_of_length_le (by omega)]; rfl
  | succ m ih =>
    intro k i w hi hk hw hb
    obtain ⟨k, rfl⟩ : ∃ j, k = j + 1 := ⟨k - 1, by omega⟩
    have hlt : i < l.length := by omega
    rw [expr_End_L0, bif_decide (by omega), idx_get hlt, List.drop_eq_getElem_cons hlt, endF, Option.bind_some, kids_m, Option.bind_some, wrap_one i (by omega)]
    rcases kids_cases l[i].f_Op with g | g | g | g
    · rw [g, bif_decide (by omega), if_pos (by omega)]; rfl
    all_goals rw [g, bif_not (by omega), if_neg (by omega)]
    · rw [wrap64 (n := 0 - 1) (by omega), wrap64 (by omega)]
      by_cases c : w = 1
      · subst c; rw [if_pos (by omega)]; rfl
      · rw [if_neg (by omega), beq_eq_false_iff_ne.2 (by omega), cond_false, show (w : Int) + (0 - 1) = ((w - 1 : Nat) : Int) by omega, ih k (i + 1) (w - 1) (by omega) (by omega) (by omega) (by omega), show ((w : Int) + 0 - 1).toNat = w - 1 by omega]
        cases endF (l.drop (i + 1)) (w - 1) with
        | none => rfl
        | some j => exact congrArg some (by show ((i + 1 : Nat) : Int) + (j : Int) = (i : Int) + ((j + 1 : Nat) : Int); omega)
    · rw [wrap64 (n := 1 - 1) (by omega), wrap64 (by omega), if_neg (by omega), beq_eq_false_iff_ne.2 (by omega), cond_false, show (w : Int) + (1 - 1) = (w : Int) by omega, ih k (i + 1) w (by omega) (by omega) (by omega) (by omega), show ((w : Int) + 1 - 1).toNat = w by omega]
      cases endF (l.drop (i + 1)) w with
      | none => rfl
      | some j => exact congrArg some (by show ((i + 1 : Nat) : Int) + (j : Int) = (i : Int) + ((j + 1 : Nat) : Int); omega)
    · rw [wrap64 (n := 2 - 1) (by omega), wrap64 (by omega), if_neg (by omega), beq_eq_false_iff_ne.2 (by omega), cond_false, show (w : Int) + (2 - 1) = ((w + 1 : Nat) : Int) by omega, ih k (i + 1) (w + 1) (by omega) (by omega) (by omega) (by omega), show ((w : Int) + 2 - 1).toNat = w + 1 by omega]
      cases endF (l.drop (i + 1)) (w + 1) with
      | none => rfl
      | some j => exact congrArg some (by show ((i + 1 : Nat) : Int) + (j : Int) = (i : Int) + ((j + 1 : Nat) : Int); omega)
theorem lr_map {τ : Type} {o : Option (LR Unit Int)} {d r : Int} (h : o.map (outI d) = some r) : (o.bind fun o11 => match o11 with | .out _ => some d | .ret v => some v) = some r := by
  obtain ⟨x, rfl, h2⟩ := Option.map_eq_some_iff.1 h
  cases x <;> exact congrArg some h2
theorem end_m (n : Nat) (l : List Nd) (i : Int) (hl : l.length < 1000000) (hn : l.length + 4 < n) : m_expr_End n l i = some (endS l i) := by
  obtain ⟨n, rfl⟩ : ∃ j, n = j + 2 := ⟨n - 2, by omega⟩
  rw [m_expr_End, endS]
  by_cases c : i < 0
  · rw [bif_decide c, if_pos c]
  · rw [bif_not c, if_neg c]
    by_cases c2 : i.toNat ≤ l.length
    · have := end_L n l hl (l.length - i.toNat) (n + 1) i.toNat 1 (by omega) (by omega) (by omega) (by omega)
      rw [show ((i.toNat : Nat) : Int) = i by omega] at this
      exact lr_map (τ := Unit) this
    · have e : expr_End_L0 (n + 1) l (n + 1) i 1 = some (.out ()) := by rw [expr_End_L0, bif_not (by omega)]
      rw [e, List.drop_of_length_le (by omega)]; rfl

def closeF : List Int → List Int
  | [] => []
  | a :: r => if 0 < a - 1 then (a - 1) :: r else closeF r
def depF : List Nd → Int × List Int → Int × List Int
  | [], s => s
  | x :: l, (m, R) => if 0 < kidsF x.f_Op then depF l (if m < (R.length : Int) then (R.length : Int) else m, kidsF x.f_Op :: R) else depF l (if m < (R.length : Int) then (R.length : Int) else m, closeF R)
theorem depF_tr : ∀ (t : Tr) (rest : List Nd) (m : Int) (R : List Int), t.wf → 0 ≤ m → depF (t.flat ++ rest) (m, R) = depF rest (max m (R.length + t.dep : Nat), closeF R) := by
  intro t
  have hmax : ∀ (m : Int) (k : Nat), (if m < (k : Int) then (k : Int) else m) = max m (k : Int) := by intro m k; split <;> omega
  induction t with
  | leaf x =>
    intro rest m R h hm
    simp only [Tr.wf] at h
    simp only [Tr.flat, List.cons_append, List.nil_append, depF, h, Tr.dep, Nat.add_zero]
    rw [if_neg (by omega), hmax]
  | un x a ih =>
    intro rest m R h hm
    obtain ⟨h1, h2⟩ := h
    simp only [Tr.flat, List.cons_append, depF, h1, Tr.dep]
    rw [if_pos (by omega), hmax, ih _ _ _ h2 (by omega), closeF, if_neg (by omega), List.length_cons]
    congr 2; omega
  | bin x a b iha ihb =>
    intro rest m R h hm
    obtain ⟨h1, h2, h3⟩ := h
    simp only [Tr.flat, List.cons_append, depF, h1, Tr.dep, List.append_assoc]
    rw [if_pos (by omega), hmax, iha _ _ _ h2 (by omega), closeF, if_pos (by omega), ihb _ _ _ h3 (by omega), closeF, if_neg (by omega), List.length_cons, List.length_cons]
    congr 2; omega
theorem close_L (n : Nat) : ∀ (R : List Int) (k : Nat), R.length < k → R.length < 1000000 → (∀ v ∈ R, 1 ≤ v ∧ v ≤ 2) → expr_depth_L1 n k R.reverse = some (.out (closeF R).reverse) := by
  intro R
  induction R with
  | nil =>
    intro k hk _ _
    obtain ⟨k, rfl⟩ : ∃ j, k = j + 1 := ⟨k - 1, by omega⟩
    rw [expr_depth_L1, List.reverse_nil]; rfl
  | cons a R ih =>
    intro k hk hl hv
    obtain ⟨k, rfl⟩ : ∃ j, k = j + 1 := ⟨k - 1, by omega⟩
    have ha := hv a (List.mem_cons_self ..)
    rw [List.length_cons] at hl
    have hlen : (a :: R).reverse.length = R.length + 1 := by simp
    have w : IntKind.i64.wrap (((R.length + 1 : Nat) : Int) - 1) = (R.length : Int) := by rw [wrap64 (by omega)]; omega
    have hset : ∀ v : Int, ((a :: R).reverse).set R.length v = R.reverse ++ [v] := by
      intro v; rw [List.reverse_cons, List.set_append_right _ _ (by simp)]; simp
    have g1 : idx (a :: R).reverse (R.length : Int) = some a := by rw [idx_nat, List.reverse_cons, List.getElem?_append_right (by simp)]; simp
    have g2 : ∀ v : Int, idx (R.reverse ++ [v]) (R.length : Int) = some v := by intro v; rw [idx_nat, List.getElem?_append_right (by simp)]; simp
    rw [expr_depth_L1, hlen, bif_decide (by omega), w, g1]
    simp only [Option.bind_some, Int.toNat_natCast, hset, g2]
    rw [wrap64 (n := a - 1) (by omega), closeF]
    by_cases c : 0 < a - 1
    · rw [bif_decide c, if_pos c, List.reverse_cons]
    · have c2 : (decide (0 ≤ (R.length : Int)) && decide ((R.length : Int) ≤ (((R.reverse ++ [a - 1]).length : Nat) : Int))) = true := by
        rw [decide_eq_true (by omega), decide_eq_true (by simp; omega)]; rfl
      have e : List.take R.length (R.reverse ++ [a - 1]) = R.reverse := by
        rw [List.take_append_of_le_length (by simp), List.take_of_length_le (by simp)]
      rw [bif_not c, if_neg c, c2, cond_true, e]
      exact ih k (by rw [List.length_cons] at hk; omega) (by omega) (fun v h => hv v (List.mem_cons_of_mem _ h))
theorem closeF_ok : ∀ (R : List Int), (∀ v ∈ R, 1 ≤ v ∧ v ≤ 2) → (∀ v ∈ closeF R, 1 ≤ v ∧ v ≤ 2) ∧ (closeF R).length ≤ R.length := by
  intro R
  induction R with
  | nil => intro h; exact ⟨h, Nat.le_refl _⟩
  | cons a R ih =>
    intro h
    have ha := h a (List.mem_cons_self ..)
    have hR : ∀ v ∈ R, 1 ≤ v ∧ v ≤ 2 := fun v hv => h v (List.mem_cons_of_mem _ hv)
    rw [closeF]
    split
    · exact ⟨fun v hv => by rcases List.mem_cons.1 hv with rfl | hv; exact ⟨by omega, by omega⟩; exact hR v hv, by simp⟩
    · exact ⟨(ih hR).1, by have := (ih hR).2; simp; omega⟩
theorem depth_L (n : Nat) (l : List Nd) (hl : l.length < 100000) (hn : l.length + 2 < n) {k : Nat} (hk : l.length < k) : expr_depth_L0 n l k 0 0 [] = some (.out ((depF l (0, [])).1, (depF l (0, [])).2.reverse)) := by
  refine loop_list0 l (fun k i (s : Int × List Int) => expr_depth_L0 n l k s.1 (i : Int) s.2.reverse) (fun l s => some (.out ((depF l s).1, (depF l s).2.reverse)))
    (fun i s => s.2.length ≤ i ∧ ∀ v ∈ s.2, 1 ≤ v ∧ v ≤ 2) (s := (0, [])) hk ⟨Nat.le_refl _, by simp⟩ ?_ ?_
  · intro k s hs
    rw [expr_depth_L0, bif_not (by omega)]; rfl
  · rintro k i ⟨m, R⟩ x hi hx ⟨r1, r2⟩ ih
    dsimp only at r1 r2 ⊢
    obtain ⟨n, rfl⟩ : ∃ j, n = j + 1 := ⟨n - 1, by omega⟩
    rw [expr_depth_L0, bif_decide (by omega), idx_some hx, Option.bind_some, kids_m, Option.bind_some, wrap_one i (by omega), List.length_reverse, depF]
    by_cases c : 0 < kidsF x.f_Op
    · rw [bif_decide c, if_pos c, bif_decide (by omega), ← List.reverse_cons]
      refine ih (_, _ :: R) ⟨by simp; omega, fun v hv => ?_⟩
      rcases List.mem_cons.1 hv with rfl | hv
      · rcases kids_cases x.f_Op with g | g | g | g <;> omega
      · exact r2 v hv
    · have hc := closeF_ok R r2
      rw [bif_not c, if_neg c, close_L (n + 1) R (n + 1) (by omega) (by omega) r2, Option.bind_some]
      exact ih (_, closeF R) ⟨by dsimp only; omega, hc.1⟩
end Go.Proofs.Ytmnnkeejgkhgpaa
end

section
namespace Go.Proofs.Ytmnnkeejgkhgpaa
set_option linter.unusedVariables false
set_option linter.unusedSimpArgs false

/-- Has a node what its operator asks? -/
def nodeOk (x : Nd) : Bool := !decide (x.f_At < 0) && (if x.f_Op = 1 then decide (0 ≤ x.f_N ∧ x.f_N ≤ 9999) && (x.f_Name == [] && x.f_In == [])
  else if x.f_Op = 2 ∨ x.f_Op = 3 then x.f_N == 0 && (nameB x.f_Name && x.f_In == []) else if x.f_Op = 4 then x.f_N == 0 && (nameB x.f_Name && nameB x.f_In) else x.f_N == 0 && (x.f_Name == [] && x.f_In == []))
theorem fits_m (n : Nat) (x : Nd) : m_expr_fits (n + 2) x = some (nodeOk x) := by
  rw [m_expr_fits, nodeOk]
  by_cases c : x.f_At < 0
  · rw [bif_decide c, decide_eq_true c]; rfl
  rw [bif_not c, decide_eq_false c]
  simp only [m_scan_Name, Option.bind_some, beq_self_eq_true, Bool.true_and, Bool.and_true, Bool.not_false]
  by_cases c1 : x.f_Op = 1
  · rw [if_pos c1, c1]
    simp only [beq_self_eq_true, cond_true]
    cases (x.f_Name == []) <;> cases (x.f_In == []) <;> by_cases h : 0 ≤ x.f_N <;> by_cases h2 : x.f_N ≤ 9999 <;> simp [h, h2]
  rw [if_neg c1, beq_eq_false_iff_ne.2 c1]
  by_cases c4 : x.f_Op = 4
  · rw [if_neg (by omega), if_pos c4, c4]
    simp only [beq_self_eq_true, cond_true, cond_false]
    cases nameB x.f_In <;> cases nameB x.f_Name <;> cases (x.f_N == 0) <;> rfl
  rw [if_neg c4, beq_eq_false_iff_ne.2 c4]
  by_cases c2 : x.f_Op = 2
  · rw [if_pos (.inl c2), c2]
    simp only [beq_self_eq_true, cond_true, cond_false]
    cases nameB x.f_Name <;> cases (x.f_N == 0) <;> cases (x.f_In == []) <;> rfl
  rw [beq_eq_false_iff_ne.2 c2]
  by_cases c3 : x.f_Op = 3
  · rw [if_pos (.inr c3), c3]
    simp only [beq_self_eq_true, cond_true, cond_false]
    cases nameB x.f_Name <;> cases (x.f_N == 0) <;> cases (x.f_In == []) <;> rfl
  rw [if_neg (by omega), beq_eq_false_iff_ne.2 c3]
  rfl
/-- May an expression be? -/
def exprOk (l : List Nd) : Bool := decide (1 ≤ l.length ∧ l.length ≤ 200) && (decide (endF l 1 = some l.length) && (l.all nodeOk && decide ((depF l (0, [])).1 ≤ 30)))
theorem depth_m2 (n : Nat) (l : List Nd) (hl : l.length < 100000) (hn : l.length + 4 < n) : m_expr_depth n l = some (depF l (0, [])).1 := by
  obtain ⟨n, rfl⟩ : ∃ j, n = j + 1 := ⟨n - 1, by omega⟩
  rw [m_expr_depth, depth_L n l hl (by omega) (by omega)]; rfl
theorem endS0 (l : List Nd) (hl : 1 ≤ l.length) : (endS l 0 != (l.length : Int)) = !decide (endF l 1 = some l.length) := by
  have e : endS l 0 = match endF l 1 with | some j => ((j : Nat) : Int) | none => -1 := by
    rw [endS, if_neg (by omega)]
    show (match endF l 1 with | some j => (0 : Int) + (j : Int) | none => -1) = _
    cases endF l 1 with
    | none => rfl
    | some j => simp
  rw [e]
  cases endF l 1 with
  | none =>
    show ((-1 : Int) != (l.length : Int)) = _
    rw [bne_iff_ne.2 (by omega)]; simp
  | some j =>
    show (((j : Nat) : Int) != (l.length : Int)) = _
    rw [natNe]
    by_cases h : j = l.length <;> simp [h]
theorem eright_m (n : Nat) (l : List Nd) (hl : l.length < 100000) (hn : l.length + 20 < n) : m_expr_Right n l = some (exprOk l) := by
  obtain ⟨n, rfl⟩ : ∃ j, n = j + 3 := ⟨n - 3, by omega⟩
  rw [m_expr_Right, exprOk]
  by_cases c1 : l.length = 0
  · rw [beq_iff_eq.2 (show ((l.length : Nat) : Int) = 0 by omega), decide_eq_false (show ¬ (1 ≤ l.length ∧ l.length ≤ 200) by omega)]; rfl
  rw [beq_eq_false_iff_ne.2 (show ((l.length : Nat) : Int) ≠ 0 by omega)]
  by_cases c2 : 200 < (l.length : Int)
  · rw [bif_decide c2, decide_eq_false (show ¬ (1 ≤ l.length ∧ l.length ≤ 200) by omega)]; rfl
  have hL : expr_Right_L0 (n + 2) l (n + 2) 0 = bif l.all nodeOk then some (.out ()) else some (.ret false) := by
    refine all_list l (fun k i => expr_Right_L0 (n + 2) l k (i : Int)) _ (fun k => ?_) (fun k i x hi hx => ?_) (by omega)
    · rw [expr_Right_L0, bif_not (by omega)]
    · rw [expr_Right_L0, bif_decide (by omega), idx_some hx, Option.bind_some, fits_m, Option.bind_some, wrap_one i (by omega)]
  rw [bif_not c2, end_m (n + 2) l 0 (by omega) (by omega), Option.bind_some, endS0 l (by omega), hL, decide_eq_true (show 1 ≤ l.length ∧ l.length ≤ 200 by omega)]
  simp only [cond_false, depth_m2 (n + 2) l hl (by omega)]
  cases decide (endF l 1 = some l.length) with
  | false => rfl
  | true => cases l.all nodeOk <;> rfl
def lightE (l : List Nd) : Bool := decide (l.length ≤ 250) && l.all fun x => decide (x.f_Name.length ≤ 100 ∧ x.f_In.length ≤ 100)
theorem rlightE_m (n : Nat) (l : List Nd) (hn : 260 < n) : m_ref02_Light n l = some (lightE l) := by
  obtain ⟨n, rfl⟩ : ∃ j, n = j + 1 := ⟨n - 1, by omega⟩
  rw [m_ref02_Light, lightE]
  by_cases c : 250 < (l.length : Int)
  · rw [bif_decide c, decide_eq_false (by omega)]; rfl
  have hL : ref02_Light_L0 n l n 0 = bif l.all (fun x => decide (x.f_Name.length ≤ 100 ∧ x.f_In.length ≤ 100)) then some (.out ()) else some (.ret false) := by
    refine all_list l (fun k i => ref02_Light_L0 n l k (i : Int)) _ (fun k => ?_) (fun k i x hi hx => ?_) (by omega)
    · rw [ref02_Light_L0, bif_not (by omega)]
    · rw [ref02_Light_L0, bif_decide (by omega), idx_some hx, Option.bind_some, Option.bind_some, wrap_one i (by omega)]
      by_cases h1 : 100 < (x.f_Name.length : Int)
      · rw [bif_decide h1, bif_not (by omega)]
      · by_cases h2 : 100 < (x.f_In.length : Int)
        · rw [bif_not h1, bif_decide h2, bif_not (by omega)]
        · rw [bif_not h1, bif_not h2, bif_decide (by omega)]
  rw [bif_not c, hL, decide_eq_true (by omega)]
  cases List.all l _ <;> rfl
end Go.Proofs.Ytmnnkeejgkhgpaa
end

section
namespace Go.Proofs.Ytmnnkeejgkhgpaa
set_option linter.unusedVariables false
set_option linter.unusedSimpArgs false

/-- What an operator takes. -/
def takes (op : Int) : Int := if 1 ≤ op ∧ op ≤ 4 then 0 else if op = 5 then 1 else if 6 ≤ op ∧ op ≤ 14 then 2 else 1000000
def liesF : List OpS → Int × Int → Int × Int
  | [], s => s
  | x :: l, s => if s.1 < takes x.op then (-1, -1) else liesF l (s.1 + (1 - takes x.op), if s.2 < s.1 + (1 - takes x.op) then s.1 + (1 - takes x.op) else s.2)
def out2 (r : LR (Int × Int) (Int × Int)) : Int × Int := match r with
  | .out x => x
  | .ret x => x
def yv : R_code_of → Int × Bool
  | .c0 x | .c1 x | .c2 x | .c3 x | .c4 x | .c5 x | .c6 x | .c7 x | .c8 x | .c9 x | .c10 x => x
theorem of_yv (n : Nat) (op : Int) : ∃ y, m_code_of (n + 1) op = some y ∧ yv y = (if 1 ≤ op ∧ op ≤ 4 ∨ op < 5 ∨ 15 ≤ op then 0 else takes op, decide (5 ≤ op ∧ op ≤ 14)) := by
  rcases op_cases op with h | h | h | h | h | h | h | h | h | h | h | h | h | h | h | h
  · refine ⟨.c0 (0, false), by rw [m_code_of, bif_decide (by omega)], ?_⟩
    rw [if_pos (by omega), decide_eq_false (by omega)]; rfl
  · refine ⟨.c0 (0, false), by rw [m_code_of, bif_not (by omega), bif_decide (by omega)], ?_⟩
    rw [if_pos (by omega), decide_eq_false (by omega)]; rfl
  all_goals subst h; exact ⟨_, rfl, by decide⟩
theorem lies_step (n : Nat) (l : List OpS) (k : Nat) (s1 s2 s3 : Int) : code_lies_L0 n l (k + 1) s1 s2 s3 = (bif decide (s3 < ((l.length : Nat) : Int)) then ((idx l s3).bind fun x => ((m_code_of n x.op).bind fun y =>
    (bif decide (1 ≤ x.op) && decide (x.op ≤ 4) || (yv y).2 then bif decide (s1 < (yv y).1) then some (.ret (-1, -1)) else code_lies_L0 n l k (IntKind.i64.wrap (s1 + (IntKind.i64.wrap (1 - (yv y).1)))) (if s2 < (IntKind.i64.wrap (s1 + (IntKind.i64.wrap (1 - (yv y).1)))) then (IntKind.i64.wrap (s1 + (IntKind.i64.wrap (1 - (yv y).1)))) else s2) (IntKind.i64.wrap (s3 + 1)) else some (.ret (-1, -1))))) else (some (.out (s1, s2)))) := by
  rw [code_lies_L0]
  congr 1
  refine congrArg _ (funext fun x => congrArg _ (funext fun y => ?_))
  cases y <;> rename_i x2 <;> obtain ⟨a, b⟩ := x2 <;> cases b <;> cases decide (1 ≤ x.op) <;> cases decide (x.op ≤ 4) <;> rfl
theorem lies_L (n : Nat) (l : List OpS) (hl : l.length < 1000000) {k : Nat} (hk : l.length < k) : (code_lies_L0 (n + 1) l k 0 0 0).map out2 = some (liesF l (0, 0)) := by
  refine loop_list0 l (fun k i s => (code_lies_L0 (n + 1) l k s.1 s.2 (i : Int)).map out2) (fun l s => some (liesF l s)) (fun i s => 0 ≤ s.1 ∧ s.1 ≤ i ∧ 0 ≤ s.2 ∧ s.2 ≤ i) (s := (0, 0)) hk (by simp) ?_ ?_
  · intro k s hs
    rw [lies_step, bif_not (by omega)]; rfl
  · rintro k i ⟨a, b⟩ x hi hx ⟨h1, h2, h3, h4⟩ ih
    dsimp only at h1 h2 h3 h4 ⊢
    have hlt : (i : Int) < (l.length : Int) := by omega
    obtain ⟨y, e1, e2⟩ := of_yv n x.op
    rw [lies_step, bif_decide hlt, idx_some hx, wrap_one i (by omega)]
    simp only [Option.bind_some, liesF, e1, e2]
    by_cases c : 1 ≤ x.op ∧ x.op ≤ 14
    · have ht : takes x.op = 0 ∧ x.op ≤ 4 ∨ (takes x.op = 1 ∨ takes x.op = 2) ∧ 5 ≤ x.op := by unfold takes; split <;> (try split) <;> (try split) <;> omega
      have ct : (if 1 ≤ x.op ∧ x.op ≤ 4 ∨ x.op < 5 ∨ 15 ≤ x.op then 0 else takes x.op) = takes x.op := by split <;> omega
      have c2 : (decide (1 ≤ x.op) && decide (x.op ≤ 4) || decide (5 ≤ x.op ∧ x.op ≤ 14)) = true := by simp; omega
      rw [ct, c2, cond_true]
      by_cases c3 : a < takes x.op
      · rw [bif_decide c3, if_pos c3]; rfl
      · rw [bif_not c3, if_neg c3, wrap64 (n := 1 - takes x.op) (by omega), wrap64 (by omega)]
        have hm : 0 ≤ (if b < a + (1 - takes x.op) then a + (1 - takes x.op) else b) ∧ (if b < a + (1 - takes x.op) then a + (1 - takes x.op) else b) ≤ ((i + 1 : Nat) : Int) := by split <;> omega
        exact ih (_, _) ⟨by omega, by omega, hm.1, hm.2⟩
    · have c2 : (decide (1 ≤ x.op) && decide (x.op ≤ 4) || decide (5 ≤ x.op ∧ x.op ≤ 14)) = false := by simp; omega
      have ht : takes x.op = 1000000 := by unfold takes; repeat' split
                                           all_goals omega
      rw [c2, cond_false, if_pos (by omega)]; rfl
theorem lies_m (n : Nat) (l : List OpS) (hl : l.length < 1000000) (hn : l.length + 2 < n) : m_code_lies n l = some (liesF l (0, 0)) := by
  obtain ⟨n, rfl⟩ : ∃ j, n = j + 2 := ⟨n - 2, by omega⟩
  have := lies_L n l hl (k := n + 1) (by omega)
  obtain ⟨r, h1, h2⟩ := Option.map_eq_some_iff.1 this
  rw [m_code_lies, h1]
  cases r with
  | out x => obtain ⟨a, b⟩ := x; exact congrArg some h2
  | ret x => exact congrArg some h2
theorem depth_m (n : Nat) (l : List OpS) (hl : l.length < 1000000) (hn : l.length + 3 < n) : m_code_Depth n l = some (liesF l (0, 0)).2 := by
  obtain ⟨n, rfl⟩ : ∃ j, n = j + 1 := ⟨n - 1, by omega⟩
  rw [m_code_Depth, lies_m n l hl (by omega)]; rfl

/-- May an operation stand so? -/
def opOk (regs : List Int) (own locs : Int) (x : OpS) : Bool :=
  if x.op = 1 then decide (0 ≤ x.n ∧ x.n < 10000) else if x.op = 2 then decide (0 ≤ x.n ∧ x.n < own) else if x.op = 3 then decide (0 ≤ x.n ∧ x.n < locs)
  else if x.op = 4 then (if 0 ≤ x.t then match regs[x.t.toNat]? with | some r => decide (0 ≤ x.n ∧ x.n < r) | none => false else false) else true
def codeOk (l : List OpS) (regs : List Int) (own locs : Int) : Bool := l.all (opOk regs own locs) && decide ((liesF l (0, 0)).1 = 1)
theorem cr_L (n : Nat) (l : List OpS) (regs : List Int) (own locs : Int) (hl : l.length < 1000000) {k : Nat} (hk : l.length < k) : code_Right_L0 n l regs own locs k 0 = bif l.all (opOk regs own locs) then some (.out ()) else some (.ret false) := by
  refine loop_list0 l (fun k i (_ : Unit) => code_Right_L0 n l regs own locs k (i : Int)) (fun l _ => bif l.all (opOk regs own locs) then some (.out ()) else some (.ret false)) (fun _ _ => True) (s := ()) hk trivial ?_ ?_
  · intro k s hs
    rw [code_Right_L0, bif_not (by omega)]; rfl
  · rintro k i _ x hi hx _ ih
    have hlt : (i : Int) < (l.length : Int) := by omega
    have ih := ih () trivial
    rw [code_Right_L0, bif_decide hlt, idx_some hx, wrap_one i (by omega)]
    simp only [Option.bind_some, List.all_cons, ih, two_ne, two_none, bif_band]
    generalize (bif List.all (List.drop (i + 1) l) (opOk regs own locs) then some (LR.out ()) else some (LR.ret false)) = r
    unfold opOk
    by_cases c1 : x.op = 1
    · rw [if_pos c1, c1]; rfl
    by_cases c2 : x.op = 2
    · rw [if_neg c1, if_pos c2, c2]; rfl
    by_cases c3 : x.op = 3
    · rw [if_neg c1, if_neg c2, if_pos c3, c3]; rfl
    rw [if_neg c1, if_neg c2, if_neg c3, beq_eq_false_iff_ne.2 c1, beq_eq_false_iff_ne.2 c2, beq_eq_false_iff_ne.2 c3]
    by_cases c4 : x.op = 4
    · rw [if_pos c4, c4]
      by_cases g0 : 0 ≤ x.t
      · rw [if_pos g0]
        by_cases g1 : x.t < (regs.length : Int)
        · rw [idx_of g0, List.getElem?_eq_getElem (by omega)]
          simp only [g0, g1, decide_true, cond_true, cond_false, Option.bind_some, beq_self_eq_true]
        · rw [List.getElem?_eq_none (by omega)]
          simp only [g0, g1, decide_true, decide_false, cond_true, cond_false, beq_self_eq_true]
          exact bif_not (by omega) _ _
      · simp only [g0, decide_true, decide_false, cond_true, cond_false, beq_self_eq_true, if_false]
        exact bif_not (by omega) _ _
    · rw [if_neg c4, beq_eq_false_iff_ne.2 c4]; rfl
theorem cright_code (n : Nat) (l : List OpS) (regs : List Int) (own locs : Int) (hl : l.length < 1000000) (hn : l.length + 4 < n) : m_code_Right n l regs own locs = some (codeOk l regs own locs) := by
  obtain ⟨n, rfl⟩ : ∃ j, n = j + 1 := ⟨n - 1, by omega⟩
  rw [m_code_Right, cr_L n l regs own locs hl (by omega), codeOk]
  cases l.all (opOk regs own locs) with
  | false => rfl
  | true =>
    simp only [cond_true, Option.bind_some, lies_m n l hl (by omega), Bool.true_and]
    rfl

end Go.Proofs.Ytmnnkeejgkhgpaa
end

section
namespace Go.Proofs.Ytmnnkeejgkhgpaa
set_option linter.unusedVariables false
set_option linter.unusedSimpArgs false

def doOf (n : Nat) : R_code_of → Int → Int → Int → Option Int
  | .c0 _ => fun _ _ _ => none
  | .c1 _ => m_code_of_10 n
  | .c2 _ => m_code_of_9 n
  | .c3 _ => m_code_of_8 n
  | .c4 _ => m_code_of_7 n
  | .c5 _ => m_code_of_6 n
  | .c6 _ => m_code_of_5 n
  | .c7 _ => m_code_of_4 n
  | .c8 _ => m_code_of_3 n
  | .c9 _ => m_code_of_2 n
  | .c10 _ => m_code_of_1 n
def isC0 : R_code_of → Bool
  | .c0 _ => true
  | _ => false
/-- Where the operands begin. -/
def atW (len : Nat) (t : Int) : Int := IntKind.i64.wrap ((IntKind.i64.wrap ((IntKind.i64.wrap ((len : Int) - 1)) + 1)) - t)
theorem val_step (n : Nat) (l : List OpS) (mod : Int) (own : List Int) (all : List (List Int)) (mem : List Int) (k : Nat) (i : Int) (s : List Int) : code_Value_L1 n l mod own all mem (k + 1) i s =
    (bif decide (i < ((l.length : Nat) : Int)) then ((idx l i).bind fun x =>
      (bif (x.op == 1) then (bif decide (mod = 0) then none else (bif decide ((s.length + 1) * 9 ≤ 140737488355328) then code_Value_L1 n l mod own all mem k (IntKind.i64.wrap (i + 1)) (s ++ [Int.tmod x.n mod]) else none))
      else bif (x.op == 2) then ((idx own x.n).bind fun v => (bif decide ((s.length + 1) * 9 ≤ 140737488355328) then code_Value_L1 n l mod own all mem k (IntKind.i64.wrap (i + 1)) (s ++ [v]) else none))
      else bif (x.op == 3) then ((idx mem x.n).bind fun v => (bif decide ((s.length + 1) * 9 ≤ 140737488355328) then code_Value_L1 n l mod own all mem k (IntKind.i64.wrap (i + 1)) (s ++ [v]) else none))
      else bif (x.op == 4) then ((idx all x.t).bind fun u => ((idx u x.n).bind fun v => (bif decide ((s.length + 1) * 9 ≤ 140737488355328) then code_Value_L1 n l mod own all mem k (IntKind.i64.wrap (i + 1)) (s ++ [v]) else none)))
      else ((m_code_of n x.op).bind fun y => bif isC0 y then none else
          ((idx s (atW s.length (yv y).1)).bind fun a => ((idx s (IntKind.i64.wrap ((s.length : Int) - 1))).bind fun b => ((doOf n y a b mod).bind fun v => ((idx s (atW s.length (yv y).1)).bind fun _ =>
          (bif (decide (0 ≤ IntKind.i64.wrap (atW s.length (yv y).1 + 1)) && decide (IntKind.i64.wrap (atW s.length (yv y).1 + 1) ≤ (((List.set s (atW s.length (yv y).1).toNat v).length : Nat) : Int))) then
            code_Value_L1 n l mod own all mem k (IntKind.i64.wrap (i + 1)) (List.take (IntKind.i64.wrap (atW s.length (yv y).1 + 1)).toNat (List.set s (atW s.length (yv y).1).toNat v)) else none))))))))
    else (some (.out s))) := by
  rw [code_Value_L1]
  congr 1
  refine congrArg _ (funext fun x => ?_)
  congr 1; congr 1; congr 1; congr 1
  refine congrArg _ (funext fun y => ?_)
  cases y <;> rfl

def b2i (c : Bool) : Int := bif c then 1 else 0
/-- What an operator makes of two numbers. -/
def twoF (op a b mod : Int) : Int := if op = 5 then b2i (b == 0) else if op = 6 then Int.tmod (a + b) mod else if op = 7 then Int.tmod (a + mod - b) mod else if op = 8 then Int.tmod (a * b) mod
  else if op = 9 then b2i (a == b) else if op = 10 then b2i (a != b) else if op = 11 then b2i (decide (a < b)) else if op = 12 then b2i (decide (a ≤ b)) else if op = 13 then b2i (a * b != 0) else b2i (a + b != 0)
def inR (mod v : Int) : Prop := 0 ≤ v ∧ v < mod
theorem b2i_in (c : Bool) {mod : Int} (h : 2 ≤ mod) : inR mod (b2i c) := by cases c <;> (unfold inR b2i; simp; omega)
theorem tmod_in {x mod : Int} (h : 2 ≤ mod) (hx : 0 ≤ x) : inR mod (Int.tmod x mod) := by
  rw [Int.tmod_eq_emod_of_nonneg hx]; exact ⟨Int.emod_nonneg _ (by omega), Int.emod_lt_of_pos _ (by omega)⟩
theorem mul_in {a b mod : Int} (h : 2 ≤ mod ∧ mod ≤ 16) (ha : inR mod a) (hb : inR mod b) : 0 ≤ a * b ∧ a * b ≤ 256 := by
  obtain ⟨a0, a1⟩ := ha; obtain ⟨b0, b1⟩ := hb
  refine ⟨Int.mul_nonneg a0 b0, ?_⟩
  calc a * b ≤ 16 * 16 := Int.mul_le_mul (by omega) (by omega) b0 (by omega)
    _ ≤ 256 := by omega
theorem twoF_in {op a b mod : Int} (h : 2 ≤ mod ∧ mod ≤ 16) (ha : inR mod a) (hb : inR mod b) : inR mod (twoF op a b mod) := by
  have := mul_in h ha hb
  obtain ⟨a0, a1⟩ := ha; obtain ⟨b0, b1⟩ := hb
  unfold twoF
  repeat' split
  all_goals first | exact b2i_in _ h.1 | exact tmod_in h.1 (by omega)
theorem truth_m (n : Nat) (c : Bool) : m_code_truth (n + 1) c = some (b2i c) := by cases c <;> rfl
theorem doOf_eq (n m : Nat) {op a b mod : Int} {y : R_code_of} (h : 2 ≤ mod ∧ mod ≤ 16) (ha : inR mod a) (hb : inR mod b) (ho : 5 ≤ op ∧ op ≤ 14) (hy : m_code_of (m + 1) op = some y) :
    doOf (n + 2) y a b mod = some (twoF op a b mod) := by
  have hm := mul_in h ha hb
  obtain ⟨a0, a1⟩ := ha; obtain ⟨b0, b1⟩ := hb
  have w1 : IntKind.i64.wrap (a + b) = a + b := wrap64 (by omega)
  have w2 : IntKind.i64.wrap (a * b) = a * b := wrap64 (by omega)
  have w3 : IntKind.i64.wrap (a + mod) = a + mod := wrap64 (by omega)
  have w4 : IntKind.i64.wrap (a + mod - b) = a + mod - b := wrap64 (by omega)
  have w5 : ¬ mod = 0 := by omega
  rcases op_cases op with h | h | h | h | h | h | h | h | h | h | h | h | h | h | h | h
  all_goals try omega
  all_goals subst h; obtain rfl := Option.some.inj hy
  · simp only [doOf, m_code_of_1, truth_m]; rfl
  · simp only [doOf, m_code_of_2, bif_not w5, w1]; rfl
  · simp only [doOf, m_code_of_3, bif_not w5, w3, w4]; rfl
  · simp only [doOf, m_code_of_4, bif_not w5, w2]; rfl
  · simp only [doOf, m_code_of_5, truth_m]; rfl
  · simp only [doOf, m_code_of_6, truth_m]; rfl
  · simp only [doOf, m_code_of_7, truth_m]; rfl
  · simp only [doOf, m_code_of_8, truth_m]; rfl
  · simp only [doOf, m_code_of_9, truth_m, w2]; rfl
  · simp only [doOf, m_code_of_10, truth_m, w1]; rfl

/-- What an operation makes of the numbers that lie there (the last one first). -/
def runF (mod : Int) (own : List Int) (all : List (List Int)) (mem : List Int) : List OpS → List Int → List Int
  | [], R => R
  | x :: l, R => runF mod own all mem l (if x.op = 1 then Int.tmod x.n mod :: R else if x.op = 2 then own.getD x.n.toNat 0 :: R else if x.op = 3 then mem.getD x.n.toNat 0 :: R
      else if x.op = 4 then (all.getD x.t.toNat []).getD x.n.toNat 0 :: R else if x.op = 5 then twoF 5 0 (R.getD 0 0) mod :: R.drop 1 else twoF x.op (R.getD 1 0) (R.getD 0 0) mod :: R.drop 2)
structure Good (mod : Int) (own : List Int) (all : List (List Int)) (mem : List Int) : Prop where
  h : 2 ≤ mod ∧ mod ≤ 16
  own : ∀ v ∈ own, inR mod v
  all : ∀ r ∈ all, ∀ v ∈ r, inR mod v
  mem : ∀ v ∈ mem, inR mod v
def lensOf (all : List (List Int)) : List Int := all.map fun r => ((r.length : Nat) : Int)
theorem get_in {mod : Int} {l : List Int} (hl : ∀ v ∈ l, inR mod v) {n : Int} (hn : 0 ≤ n ∧ n < (l.length : Int)) : idx l n = some (l.getD n.toNat 0) ∧ inR mod (l.getD n.toNat 0) := by
  have h : n.toNat < l.length := by omega
  rw [idx_of hn.1, List.getD_eq_getElem?_getD, List.getElem?_eq_getElem h]
  exact ⟨rfl, hl _ (List.getElem_mem h)⟩
theorem atW_eq {len : Nat} {t : Int} (hl : len < 1000000) (ht : 0 ≤ t ∧ t ≤ len) : atW len t = (len : Int) - t := by
  unfold atW
  rw [wrap64 (n := (len : Int) - 1) (by omega), wrap64 (n := (len : Int) - 1 + 1) (by omega), wrap64 (by omega)]; omega
theorem rev_get {R : List Int} {j : Nat} (h : j < R.length) : R.reverse[R.length - 1 - j]? = some (R.getD j 0) := by
  rw [List.getElem?_reverse (by omega), List.getD_eq_getElem?_getD]
  have : R.length - 1 - (R.length - 1 - j) = j := by omega
  rw [this, List.getElem?_eq_getElem h]; rfl
theorem take_set {α : Type} (v : α) : ∀ (l : List α) (n : Nat), n < l.length → List.take (n + 1) (l.set n v) = l.take n ++ [v]
  | [], n, h => by simp at h
  | a :: l, 0, h => by simp
  | a :: l, n + 1, h => by
    rw [List.set_cons_succ, List.take_succ_cons, List.take_succ_cons, take_set v l n (by simpa using h)]; rfl
theorem rev_cut {R : List Int} {t : Nat} (v : Int) (h : 1 ≤ t ∧ t ≤ R.length) : List.take (R.length - t + 1) (R.reverse.set (R.length - t) v) = (v :: R.drop t).reverse := by
  rw [take_set v _ _ (by rw [List.length_reverse]; omega), List.take_reverse, List.reverse_cons, show R.length - (R.length - t) = t by omega]
theorem valF_L (n : Nat) (l : List OpS) {mod : Int} {own : List Int} {all : List (List Int)} {mem : List Int} (G : Good mod own all mem) (hl : l.length < 1000000) (hok : ∀ x ∈ l, opOk (lensOf all) own.length mem.length x = true) (hr : (liesF l (0, 0)).1 ≠ -1) {k : Nat} (hk : l.length < k) :
    code_Value_L1 (n + 2) l mod own all mem k 0 [] = some (.out (runF mod own all mem l []).reverse) := by
  refine loop_list0 l (fun k i R => code_Value_L1 (n + 2) l mod own all mem k (i : Int) R.reverse) (fun l R => some (.out (runF mod own all mem l R).reverse))
    (fun i R => R.length ≤ i ∧ (∀ v ∈ R, inR mod v) ∧ ∃ m, (liesF (l.drop i) ((R.length : Int), m)).1 ≠ -1) (s := []) hk ⟨Nat.le_refl _, by simp, 0, hr⟩ ?_ ?_
  · intro k s hs
    rw [val_step, bif_not (by omega)]; rfl
  · rintro k i R x hi hx ⟨r1, r2, m, r3⟩ ih
    have hlt : (i : Int) < (l.length : Int) := by omega
    have hd : l.drop i = x :: l.drop (i + 1) := by rw [List.drop_eq_getElem_cons hi]; rw [List.getElem?_eq_getElem hi] at hx; rw [Option.some.inj hx]
    have hmem : x ∈ l := List.mem_of_getElem? hx
    have ho := hok x hmem
    have hmod := G.h
    rw [hd, liesF] at r3
    have ht : ¬ ((R.length : Int) < takes x.op) := by
      intro c; rw [if_pos c] at r3; exact r3 rfl
    rw [if_neg ht] at r3
    rw [val_step, bif_decide hlt, idx_some hx, wrap_one i (by omega)]
    have c0 : ¬ mod = 0 := by omega
    simp only [Option.bind_some, runF, List.length_reverse, bif_not c0, bif_decide (show (R.length + 1) * 9 ≤ 140737488355328 by omega)]
    have push : ∀ v, inR mod v → takes x.op = 0 → code_Value_L1 (n + 2) l mod own all mem k ((i + 1 : Nat) : Int) (R.reverse ++ [v]) = some (.out (runF mod own all mem (l.drop (i + 1)) (v :: R)).reverse) := by
      intro v hv h0
      have := ih (v :: R) ⟨by simp; omega, by simpa using ⟨hv, r2⟩, _, by
        rw [List.length_cons]
        rw [h0] at r3
        have e : ((R.length + 1 : Nat) : Int) = (R.length : Int) + (1 - 0) := by omega
        rw [e]; exact r3⟩
      rw [← this, List.reverse_cons]
    unfold opOk at ho
    by_cases c1 : x.op = 1
    · rw [if_pos c1, decide_eq_true_eq] at ho
      simp only [c1, if_true, beq_self_eq_true, cond_true]
      exact push _ (tmod_in hmod.1 ho.1) (by rw [c1]; rfl)
    by_cases c2 : x.op = 2
    · rw [if_neg c1, if_pos c2, decide_eq_true_eq] at ho
      simp only [c1, c2, if_true, if_false, beq_self_eq_true, cond_true, cond_false, beq_eq_false_iff_ne.2 c1, show ((2 : Int) == 1) = false from rfl, show ¬ (2 : Int) = 1 by omega]
      obtain ⟨e1, e2⟩ := get_in G.own ho
      rw [e1]
      exact push _ e2 (by rw [c2]; rfl)
    by_cases c3 : x.op = 3
    · rw [if_neg c1, if_neg c2, if_pos c3, decide_eq_true_eq] at ho
      simp only [c3, if_true, if_false, beq_self_eq_true, cond_true, cond_false, show ((3 : Int) == 1) = false from rfl, show ((3 : Int) == 2) = false from rfl, show ¬ (3 : Int) = 1 by omega, show ¬ (3 : Int) = 2 by omega]
      obtain ⟨e1, e2⟩ := get_in G.mem ho
      rw [e1]
      exact push _ e2 (by rw [c3]; rfl)
    rw [if_neg c1, if_neg c2, if_neg c3] at ho
    rw [beq_eq_false_iff_ne.2 c1, beq_eq_false_iff_ne.2 c2, beq_eq_false_iff_ne.2 c3, if_neg c1, if_neg c2, if_neg c3]
    by_cases c4 : x.op = 4
    · rw [if_pos c4] at ho
      rw [c4, if_pos rfl]
      split at ho
      · rename_i g0
        split at ho
        · rename_i r hr
          rw [lensOf, List.getElem?_map] at hr
          obtain ⟨u, hu, rfl⟩ := Option.map_eq_some_iff.1 hr
          rw [decide_eq_true_eq] at ho
          have hu' : idx all x.t = some u := by rw [idx_of g0, hu]
          obtain ⟨e1, e2⟩ := get_in (G.all u (List.mem_of_getElem? hu)) ho
          have e3 : all.getD x.t.toNat [] = u := by rw [List.getD_eq_getElem?_getD, hu]; rfl
          simp only [cond_false, beq_self_eq_true, cond_true, hu', Option.bind_some, e1, e3]
          exact push _ e2 (by rw [c4]; rfl)
        · cases ho
      · cases ho
    rw [if_neg c4, beq_eq_false_iff_ne.2 c4]
    have h5 : 5 ≤ x.op ∧ x.op ≤ 14 := by unfold takes at ht; repeat' split at ht
                                         all_goals omega
    obtain ⟨y, e1, e2⟩ := of_yv (n + 1) x.op
    rw [e1]
    have e3 : (yv y).1 = takes x.op := by rw [e2]; exact if_neg (by omega)
    have hlen : R.length < 1000000 := by omega
    have tk : takes x.op = if x.op = 5 then 1 else 2 := by unfold takes; rw [if_neg (by omega)]; split
                                                           · rfl
                                                           · rw [if_pos (by omega)]
    have hy : isC0 y = false := by
      rcases op_cases x.op with h | h | h | h | h | h | h | h | h | h | h | h | h | h | h | h
      all_goals try omega
      all_goals rw [h] at e1; obtain rfl := Option.some.inj e1; rfl
    obtain ⟨t, ht1, ht2, ht3⟩ : ∃ t : Nat, takes x.op = t ∧ 1 ≤ t ∧ t ≤ R.length := ⟨(takes x.op).toNat, by rw [tk]; split <;> rfl, by rw [tk]; split <;> decide, by rw [tk] at ht ⊢; split at ht <;> split <;> omega⟩
    have p1 : idx R.reverse ((R.length : Int) - t) = some (R.getD (t - 1) 0) := by
      rw [show (R.length : Int) - t = ((R.length - 1 - (t - 1) : Nat) : Int) by omega, idx_nat, rev_get (by omega)]
    have p2 : idx R.reverse ((R.length : Int) - 1) = some (R.getD 0 0) := by
      rw [show (R.length : Int) - 1 = ((R.length - 1 - 0 : Nat) : Int) by omega, idx_nat, rev_get (by omega)]
    have gin : ∀ j, j < R.length → inR mod (R.getD j 0) := fun j hj => by
      rw [List.getD_eq_getElem?_getD, List.getElem?_eq_getElem hj]; exact r2 _ (List.getElem_mem hj)
    have d1 := doOf_eq n (n + 1) hmod (gin (t - 1) (by omega)) (gin 0 (by omega)) h5 e1
    simp only [cond_false, Option.bind_some, hy, e3, ht1]
    rw [atW_eq hlen (by omega), p1, wrap64 (n := (R.length : Int) - 1) (by omega), p2, wrap64 (by omega)]
    simp only [Option.bind_some, d1, List.length_set, List.length_reverse]
    rw [show ((R.length : Int) - (t : Int) + 1).toNat = R.length - t + 1 by omega, show ((R.length : Int) - (t : Int)).toNat = R.length - t by omega, rev_cut _ ⟨ht2, ht3⟩]
    have c5 : (decide (0 ≤ (R.length : Int) - (t : Int) + 1) && decide ((R.length : Int) - (t : Int) + 1 ≤ (R.length : Int))) = true := by
      rw [decide_eq_true (by omega), decide_eq_true (by omega)]; rfl
    rw [c5, cond_true]
    rw [ih (_ :: R.drop t) ⟨by simp; omega, fun v hv => by
        rcases List.mem_cons.1 hv with rfl | hv
        · exact twoF_in hmod (gin _ (by omega)) (gin _ (by omega))
        · exact r2 v (List.mem_of_mem_drop hv), _, by
        rw [List.length_cons, List.length_drop]
        have e : ((R.length - t + 1 : Nat) : Int) = (R.length : Int) + (1 - takes x.op) := by omega
        rw [e]; exact r3⟩]
    congr 2
    congr 1
    rw [tk] at ht1
    split at ht1
    · rename_i c7; obtain rfl : t = 1 := by omega
      rw [if_pos c7, c7]; rfl
    · rename_i c7; obtain rfl : t = 2 := by omega
      rw [if_neg c7]
end Go.Proofs.Ytmnnkeejgkhgpaa
end

section
namespace Go.Proofs.Ytmnnkeejgkhgpaa
set_option linter.unusedVariables false
set_option linter.unusedSimpArgs false

def belowB (mod : Int) (l : List Int) : Bool := l.all fun v => decide (0 ≤ v ∧ v < mod)
theorem below_L1 (n : Nat) (mod : Int) (l : List Int) (hl : l.length < 1000000) {k : Nat} (hk : l.length < k) : code_below_L1 n mod l k 0 = bif belowB mod l then some (.out ()) else some (.ret false) := by
  refine all_list l (fun k i => code_below_L1 n mod l k (i : Int)) _ (fun k => ?_) (fun k i x hi hx => ?_) hk
  · rw [code_below_L1, bif_not (by omega)]
  · rw [code_below_L1, bif_decide (by omega), idx_some hx, Option.bind_some, two_ne, wrap_one i (by omega)]
theorem below_m (n : Nat) (mod : Int) (ls : List (List Int)) (h : ls.length < 1000000) (hl : ∀ l ∈ ls, l.length < 1000000) (hn : ls.length + 2 < n) (hn2 : ∀ l ∈ ls, l.length + 2 < n) : m_code_below n mod ls = some (ls.all (belowB mod)) := by
  obtain ⟨n, rfl⟩ : ∃ j, n = j + 1 := ⟨n - 1, by omega⟩
  have : code_below_L0 n mod ls n 0 = bif ls.all (belowB mod) then some (.out ()) else some (.ret false) := by
    refine all_list ls (fun k i => code_below_L0 n mod ls k (i : Int)) _ (fun k => ?_) (fun k i x hi hx => ?_) (by omega)
    · rw [code_below_L0, bif_not (by omega)]
    · have hm := List.mem_of_getElem? hx
      have := hn2 x hm
      rw [code_below_L0, bif_decide (by omega), idx_some hx, Option.bind_some, below_L1 n mod x (hl x hm) (by omega), wrap_one i (by omega)]
      cases belowB mod x <;> rfl
  rw [m_code_below, this]
  cases ls.all (belowB mod) <;> rfl
theorem lens_L (n : Nat) (all : List (List Int)) (hl : all.length < 1000000) {k : Nat} (hk : all.length < k) : code_Value_L0 n all k 0 [] = some (.out (lensOf all)) := by
  refine map_list all _ (fun k i s => code_Value_L0 n all k (i : Int) s) (fun k s => ?_) (fun k i x s hi hx hs => ?_) hk
  · rw [code_Value_L0, bif_not (by omega)]
  · rw [code_Value_L0, bif_decide (by omega), idx_some hx, Option.bind_some, bif_decide (by omega), wrap_one i (by omega)]
theorem run_len (mod : Int) (own : List Int) (all : List (List Int)) (mem : List Int) : ∀ (l : List OpS) (R : List Int) (m : Int), R.length + l.length < 1000000 → (liesF l ((R.length : Int), m)).1 ≠ -1 → ((runF mod own all mem l R).length : Int) = (liesF l ((R.length : Int), m)).1 := by
  intro l
  induction l with
  | nil => intro R m _ _; rfl
  | cons x l ih =>
    intro R m hb h
    rw [List.length_cons] at hb
    rw [liesF] at h ⊢
    by_cases c : (R.length : Int) < takes x.op
    · rw [if_pos c] at h; exact absurd rfl h
    · rw [if_neg c] at h ⊢
      rw [runF]
      dsimp only at h ⊢
      have key : ∀ R' : List Int, (R'.length : Int) = (R.length : Int) + (1 - takes x.op) → 0 ≤ takes x.op → ((runF mod own all mem l R').length : Int) = (liesF l ((R.length : Int) + (1 - takes x.op), if m < (R.length : Int) + (1 - takes x.op) then (R.length : Int) + (1 - takes x.op) else m)).1 := by
        intro R' e h0
        rw [← e] at h ⊢
        exact ih R' _ (by omega) h
      have bad : x.op < 1 ∨ 15 ≤ x.op → False := by
        intro g
        have : takes x.op = 1000000 := by unfold takes; repeat' split
                                          all_goals omega
        omega
      rcases op_cases x.op with g | g | g | g | g | g | g | g | g | g | g | g | g | g | g | g
      · exact (bad (.inl g)).elim
      · exact (bad (.inr g)).elim
      all_goals refine key _ ?_ (by rw [g]; decide)
      all_goals rw [g] at c ⊢; simp only [takes] at c ⊢; simp at c ⊢; try omega
theorem run_in {mod : Int} {own : List Int} {all : List (List Int)} {mem : List Int} (G : Good mod own all mem) : ∀ (l : List OpS) (R : List Int), (∀ x ∈ l, opOk (lensOf all) own.length mem.length x = true) → (∀ v ∈ R, inR mod v) → ∀ v ∈ runF mod own all mem l R, inR mod v := by
  intro l
  have hm := G.h
  have z : inR mod 0 := ⟨by omega, by omega⟩
  have gd : ∀ (R : List Int), (∀ v ∈ R, inR mod v) → ∀ j, inR mod (R.getD j 0) := by
    intro R hR j
    rw [List.getD_eq_getElem?_getD]
    cases h : R[j]? with
    | none => exact z
    | some v => exact hR v (List.mem_of_getElem? h)
  induction l with
  | nil => intro R _ h; exact h
  | cons x l ih =>
    intro R hx hR
    rw [runF]
    refine ih _ (fun y hy => hx y (List.mem_cons_of_mem _ hy)) ?_
    have ho := hx x (List.mem_cons_self ..)
    have two : ∀ {v : Int} {R' : List Int}, inR mod v → (∀ w ∈ R', inR mod w) → ∀ w ∈ v :: R', inR mod w := by
      intro v R' a b w hw
      rcases List.mem_cons.1 hw with rfl | hw
      · exact a
      · exact b w hw
    unfold opOk at ho
    split
    · rename_i c; rw [if_pos c, decide_eq_true_eq] at ho; exact two (tmod_in hm.1 ho.1) hR
    split
    · exact two (gd _ G.own _) hR
    split
    · exact two (gd _ G.mem _) hR
    split
    · refine two (gd _ ?_ _) hR
      rw [List.getD_eq_getElem?_getD]
      cases h : all[x.t.toNat]? with
      | none => intro v hv; cases hv
      | some r => exact G.all r (List.mem_of_getElem? h)
    split
    · exact two (twoF_in hm z (gd R hR 0)) (fun w hw => hR w (List.mem_of_mem_drop hw))
    · exact two (twoF_in hm (gd R hR 1) (gd R hR 0)) (fun w hw => hR w (List.mem_of_mem_drop hw))
/-- Code's value. -/
def valOk (l : List OpS) (mod : Int) (own : List Int) (all : List (List Int)) (mem : List Int) : Bool :=
  decide (2 ≤ mod ∧ mod ≤ 16) && (belowB mod own && (belowB mod mem && (all.all (belowB mod) && codeOk l (lensOf all) own.length mem.length)))
def valS (l : List OpS) (mod : Int) (own : List Int) (all : List (List Int)) (mem : List Int) : Int × Bool :=
  bif valOk l mod own all mem then ((runF mod own all mem l []).getD 0 0, true) else (0, false)
theorem good_of {l : List OpS} {mod : Int} {own : List Int} {all : List (List Int)} {mem : List Int} (h : valOk l mod own all mem = true) :
    Good mod own all mem ∧ (∀ x ∈ l, opOk (lensOf all) own.length mem.length x = true) ∧ (liesF l (0, 0)).1 = 1 := by
  simp only [valOk, codeOk, belowB, Bool.and_eq_true, decide_eq_true_eq, List.all_eq_true] at h
  obtain ⟨h1, h2, h3, h4, h5, h6⟩ := h
  exact ⟨⟨h1, h2, h4, h3⟩, h5, h6⟩
theorem run_one {l : List OpS} {mod : Int} {own : List Int} {all : List (List Int)} {mem : List Int} (h : valOk l mod own all mem = true) (hl : l.length < 1000000) :
    ∃ v, runF mod own all mem l [] = [v] ∧ inR mod v := by
  obtain ⟨G, h1, h2⟩ := good_of h
  have e := run_len mod own all mem l [] 0 (by simp; omega) (by show (liesF l (0, 0)).1 ≠ -1; rw [h2]; decide)
  have e2 : ((runF mod own all mem l []).length : Int) = 1 := e.trans h2
  have hin := run_in G l [] h1 (by intro v hv; cases hv)
  match hr : runF mod own all mem l [] with
  | [] => rw [hr] at e2; simp at e2
  | [v] => exact ⟨v, rfl, hin v (by rw [hr]; exact List.mem_cons_self ..)⟩
  | a :: b :: c => rw [hr] at e2; simp at e2; omega
theorem value_m (n : Nat) (l : List OpS) (mod : Int) (own : List Int) (all : List (List Int)) (mem : List Int) (hl : l.length < 10000) (ho : own.length < 10000) (ha : all.length < 10000) (hm : mem.length < 10000) (hr : ∀ r ∈ all, r.length < 10000)
    (hn : l.length + 10 < n) (n1 : own.length + 10 < n) (n2 : all.length + 10 < n) (n3 : mem.length + 10 < n) (n4 : ∀ r ∈ all, r.length + 10 < n) (n5 : 10 < n) : m_code_Value n l mod own all mem = some (valS l mod own all mem) := by
  obtain ⟨n, rfl⟩ : ∃ j, n = j + 3 := ⟨n - 3, by omega⟩
  rw [m_code_Value]
  unfold valS
  by_cases c1 : mod < 2
  · have : valOk l mod own all mem = false := by rw [valOk, decide_eq_false (by omega)]; rfl
    rw [bif_decide c1, this]; rfl
  by_cases c2 : 16 < mod
  · have : valOk l mod own all mem = false := by rw [valOk, decide_eq_false (by omega)]; rfl
    rw [bif_not c1, bif_decide c2, this]; rfl
  have b1 := below_m (n + 2) mod [own, mem] (by simp) (by simp; omega) (by simp; omega) (by simp; omega)
  have b2 := below_m (n + 2) mod all (by omega) (fun r h => by have := hr r h; omega) (by omega) (fun r h => by have := n4 r h; omega)
  have b3 := lens_L (n + 2) all (by omega) (k := n + 2) (by omega)
  have b4 := cright_code (n + 2) l (lensOf all) own.length mem.length (by omega) (by omega)
  rw [bif_not c1, bif_not c2, b1, b2, b3]
  simp only [Option.bind_some, b4]
  have e : valOk l mod own all mem = ([own, mem].all (belowB mod) && (all.all (belowB mod) && codeOk l (lensOf all) own.length mem.length)) := by
    rw [valOk, decide_eq_true (by omega), Bool.true_and, List.all_cons, List.all_cons, List.all_nil, Bool.and_true, Bool.and_assoc]
  cases g1 : [own, mem].all (belowB mod) with
  | false => rw [e, g1]; rfl
  | true =>
  cases g2 : all.all (belowB mod) with
  | false => rw [e, g1, g2]; rfl
  | true =>
  cases g3 : codeOk l (lensOf all) own.length mem.length with
  | false => rw [e, g1, g2, g3]; rfl
  | true =>
    have ok : valOk l mod own all mem = true := by rw [e, g1, g2, g3]; rfl
    obtain ⟨G, h1, h2⟩ := good_of ok
    obtain ⟨v, hv, _⟩ := run_one ok (by omega)
    have hL := valF_L n l G (by omega) h1 (by rw [h2]; decide) (k := n + 2) (by omega)
    rw [ok, hL, hv]
    rfl
end Go.Proofs.Ytmnnkeejgkhgpaa
end

section
namespace Go.Proofs.Ytmnnkeejgkhgpaa
set_option linter.unusedVariables false
set_option linter.unusedSimpArgs false

abbrev Str := List UInt8
/-- The first place of something that is so. -/
def findF {α : Type} (p : α → Bool) : List α → Nat → Option Nat
  | [], _ => none
  | x :: l, i => bif p x then some i else findF p l (i + 1)
theorem findF_lt {α : Type} {p : α → Bool} : ∀ {l : List α} {i j : Nat}, findF p l i = some j → i ≤ j ∧ j < i + l.length ∧ ∃ x, l[j - i]? = some x ∧ p x = true := by
  intro l
  induction l with
  | nil => intro i j h; cases h
  | cons x l ih =>
    intro i j h
    rw [findF] at h
    cases hp : p x with
    | true =>
      rw [hp] at h
      obtain rfl : i = j := Option.some.inj h
      exact ⟨Nat.le_refl _, by simp, x, by simp, hp⟩
    | false =>
      rw [hp] at h
      obtain ⟨h1, h2, y, h3, h4⟩ := ih h
      refine ⟨by omega, by simp; omega, y, ?_, h4⟩
      rw [show j - i = (j - (i + 1)) + 1 by omega, List.getElem?_cons_succ]; exact h3
theorem find_list {α τ : Type} (l : List α) (L : Nat → Nat → Option (LR Unit τ)) (p : α → Bool) (g : Nat → α → Option (LR Unit τ)) (h0 : ∀ k, L (k + 1) l.length = some (.out ()))
    (h1 : ∀ k i x, i < l.length → l[i]? = some x → L (k + 1) i = bif p x then g i x else L k (i + 1)) :
    ∀ (m k i : Nat), i + m = l.length → m < k → L k i = match findF p (l.drop i) i with | some j => (match l[j]? with | some x => g j x | none => none) | none => some (.out ()) := by
  intro m
  induction m with
  | zero =>
    intro k i hi hk
    obtain ⟨k, rfl⟩ : ∃ j, k = j + 1 := ⟨k - 1, by omega⟩
    obtain rfl : i = l.length := by omega
    rw [h0, List.drop_length]; rfl
  | succ m ih =>
    intro k i hi hk
    obtain ⟨k, rfl⟩ : ∃ j, k = j + 1 := ⟨k - 1, by omega⟩
    have hlt : i < l.length := by omega
    rw [h1 k i l[i] hlt (List.getElem?_eq_getElem hlt), ih k (i + 1) (by omega) (by omega), List.drop_eq_getElem_cons hlt, findF]
    cases hp : p l[i] with
    | true => simp only [cond_true, List.getElem?_eq_getElem hlt]
    | false => rfl
def indexF (l : List Str) (name : Str) : Int := match findF (fun x => x == name) l 0 with
  | some i => (i : Int)
  | none => -1
theorem index_m (n : Nat) (l : List Str) (name : Str) (hl : l.length < 1000000) (hn : l.length + 1 < n) : m_legal_Index n l name = some (indexF l name) := by
  obtain ⟨n, rfl⟩ : ∃ j, n = j + 1 := ⟨n - 1, by omega⟩
  have h := find_list l (fun k i => legal_Index_L0 n l name k (i : Int)) (fun x => x == name) (fun i _ => some (.ret (i : Int))) (fun k => by rw [legal_Index_L0, bif_not (by omega)]) (fun k i x hi hx => by
    rw [legal_Index_L0, bif_decide (by omega), idx_some hx, Option.bind_some, wrap_one i (by omega)]) l.length n 0 (by omega) (by omega)
  have h : legal_Index_L0 n l name n 0 = _ := h
  rw [m_legal_Index, h, indexF, List.drop_zero]
  cases hf : findF (fun x => x == name) l 0 with
  | none => rfl
  | some j =>
    obtain ⟨_, h2, x, h3, _⟩ := findF_lt hf
    rw [Nat.sub_zero] at h3
    simp only [h3]; rfl
def codeT (lf : Nd → OpS) : Tr → List OpS
  | .leaf x => [lf x]
  | .un x a => codeT lf a ++ [⟨x.f_Op, 0, 0⟩]
  | .bin x a b => codeT lf a ++ codeT lf b ++ [⟨x.f_Op, 0, 0⟩]
def okT (ok : Nd → Bool) : Tr → Bool
  | .leaf x => ok x
  | .un _ a => okT ok a
  | .bin _ a b => okT ok a && okT ok b
theorem codeT_len (lf : Nd → OpS) (t : Tr) : (codeT lf t).length = t.flat.length := by
  induction t with
  | leaf x => rfl
  | un x a ih => simp [codeT, Tr.flat, ih]
  | bin x a b iha ihb => simp [codeT, Tr.flat, iha, ihb]; omega
/-- The leaf of a thread's code. -/
def leafT (regs : List Str) (x : Nd) : OpS × Bool := if x.f_Op = 1 then (⟨1, x.f_N, 0⟩, true) else (⟨2, indexF regs x.f_Name, 0⟩, x.f_Op == 2 && indexF regs x.f_Name != -1)
theorem leafT_m (n : Nat) (regs : List Str) (x : Nd) (hl : regs.length < 1000000) (hn : regs.length + 3 < n) : m_code_Thread_1 n x regs = some (leafT regs x) := by
  obtain ⟨n, rfl⟩ : ∃ j, n = j + 1 := ⟨n - 1, by omega⟩
  rw [m_code_Thread_1, leafT, index_m n regs _ hl (by omega)]
  by_cases c : x.f_Op = 1
  · rw [if_pos c, beq_iff_eq.2 c]; rfl
  · rw [if_neg c, beq_eq_false_iff_ne.2 c]
    by_cases c2 : x.f_Op = 2
    · rw [c2]; rfl
    · rw [beq_eq_false_iff_ne.2 c2]; rfl
theorem nodeL1 : @code_maker_node_L1 = @code_maker_node_L0 := by
  funext n r l o y k; induction k with
  | zero => funext a b c d; rfl
  | succ k ih => funext a b c d; rw [code_maker_node_L1, code_maker_node_L0, ih]
theorem nodeL2 : @code_maker_node_L2 = @code_maker_node_L0 := by
  funext n r l o y k; induction k with
  | zero => funext a b c d; rfl
  | succ k ih => funext a b c d; rw [code_maker_node_L2, code_maker_node_L0, ih]
theorem nodeL3 : @code_maker_node_L3 = @code_maker_node_L0 := by
  funext n r l o y k; induction k with
  | zero => funext a b c d; rfl
  | succ k ih => funext a b c d; rw [code_maker_node_L3, code_maker_node_L0, ih]
theorem nodeL4 : @code_maker_node_L4 = @code_maker_node_L0 := by
  funext n r l o y k; induction k with
  | zero => funext a b c d; rfl
  | succ k ih => funext a b c d; rw [code_maker_node_L4, code_maker_node_L0, ih]
theorem nodeL5 : @code_maker_node_L5 = @code_maker_node_L0 := by
  funext n r l o y k; induction k with
  | zero => funext a b c d; rfl
  | succ k ih => funext a b c d; rw [code_maker_node_L5, code_maker_node_L0, ih]
theorem nodeL6 : @code_maker_node_L6 = @code_maker_node_L0 := by
  funext n r l o y k; induction k with
  | zero => funext a b c d; rfl
  | succ k ih => funext a b c d; rw [code_maker_node_L6, code_maker_node_L0, ih]
theorem nodeL7 : @code_maker_node_L7 = @code_maker_node_L0 := by
  funext n r l o y k; induction k with
  | zero => funext a b c d; rfl
  | succ k ih => funext a b c d; rw [code_maker_node_L7, code_maker_node_L0, ih]
theorem nodeL8 : @code_maker_node_L8 = @code_maker_node_L0 := by
  funext n r l o y k; induction k with
  | zero => funext a b c d; rfl
  | succ k ih => funext a b c d; rw [code_maker_node_L8, code_maker_node_L0, ih]
theorem nodeL9 : @code_maker_node_L9 = @code_maker_node_L0 := by
  funext n r l o y k; induction k with
  | zero => funext a b c d; rfl
  | succ k ih => funext a b c d; rw [code_maker_node_L9, code_maker_node_L0, ih]
theorem nodeL10 : @code_maker_node_L10 = @code_maker_node_L0 := by
  funext n r l o y k; induction k with
  | zero => funext a b c d; rfl
  | succ k ih => funext a b c d; rw [code_maker_node_L10, code_maker_node_L0, ih]
/-- What follows once the operands are made. -/
def afterL (op : Int) (o : LR (Int × Bool × List OpS) (Int × List OpS × Bool)) : Option (Int × List OpS × Bool) := match o with
  | .out (x32, x33, x34) => (bif decide (((x34).length + 1) * 25 ≤ 140737488355328) then (some (x32, (x34 ++ ([(⟨op, 0, 0⟩ : OpS)] : List OpS)), x33)) else none)
  | .ret v => some v
def leafS (i : Int) (out : List OpS) (ok : Bool) (y : OpS × Bool) : Option (Int × List OpS × Bool) :=
  bif decide ((out.length + 1) * 25 ≤ 140737488355328) then some (IntKind.i64.wrap (i + 1), out ++ [y.1], ok && y.2) else none
theorem node_step (n : Nat) (i : Int) (l : List Nd) (out : List OpS) (ok : Bool) (regs : List Str) : m_code_maker_node (n + 1) i l out ok regs = (idx l i).bind fun x => (m_code_of n x.f_Op).bind fun y =>
    bif (yv y).2 then (code_maker_node_L0 n (m_code_maker_node n) l regs (yv y) n (IntKind.i64.wrap (i + 1)) 0 ok out).bind (afterL x.f_Op) else (m_code_Thread_1 n x regs).bind (leafS i out ok) := by
  rw [m_code_maker_node, nodeL1, nodeL2, nodeL3, nodeL4, nodeL5, nodeL6, nodeL7, nodeL8, nodeL9, nodeL10]
  refine congrArg _ (funext fun x => congrArg _ (funext fun y => ?_))
  have e : ∀ y : Int × Bool, (bif y.2 then (code_maker_node_L0 n (m_code_maker_node n) l regs y n (IntKind.i64.wrap (i + 1)) 0 ok out).bind (afterL x.f_Op) else (m_code_Thread_1 n x regs).bind (leafS i out ok)) =
      bif y.2 then (code_maker_node_L0 n (m_code_maker_node n) l regs y n (IntKind.i64.wrap (i + 1)) 0 ok out).bind (afterL x.f_Op) else ((m_code_Thread_1 n x regs).bind fun y39 => (bif ok then (bif decide (((out).length + 1) * 25 ≤ 140737488355328) then (some (IntKind.i64.wrap (i + 1), (out ++ ([(y39).1] : List OpS)), (y39).2)) else none) else (bif decide (((out).length + 1) * 25 ≤ 140737488355328) then (some (IntKind.i64.wrap (i + 1), (out ++ ([(y39).1] : List OpS)), false)) else none))) := by
    intro y
    congr 1
    refine congrArg _ (funext fun z => ?_)
    unfold leafS
    cases ok <;> rfl
  rw [e]
  cases y <;> rfl
/-- One operand after the other. -/
theorem nodeL_step (n : Nat) (rec' : Int → List Nd → List OpS → Bool → List Str → Option (Int × List OpS × Bool)) (l : List Nd) (regs : List Str) (y : Int × Bool) (k : Nat) (a i : Int) (ok : Bool) (out : List OpS) :
    code_maker_node_L0 n rec' l regs y (k + 1) a i ok out = bif decide (i < y.1) then (rec' a l out ok regs).bind fun z => code_maker_node_L0 n rec' l regs y k z.1 (IntKind.i64.wrap (i + 1)) z.2.2 z.2.1 else some (.out (a, ok, out)) := by
  rw [code_maker_node_L0]
theorem of_leaf {n : Nat} {op : Int} (h : kidsF op = 0) : ∃ y, m_code_of (n + 1) op = some y ∧ (yv y).2 = false := by
  obtain ⟨y, h1, h2⟩ := of_yv n op
  refine ⟨y, h1, ?_⟩
  rw [h2]
  unfold kidsF at h
  exact decide_eq_false (by split at h <;> (try split at h) <;> (try split at h) <;> omega)
theorem of_kids {n : Nat} {op : Int} (h : kidsF op = 1 ∨ kidsF op = 2) : ∃ y, m_code_of (n + 1) op = some y ∧ (yv y).2 = true ∧ (yv y).1 = kidsF op := by
  obtain ⟨y, h1, h2⟩ := of_yv n op
  have h5 : 5 ≤ op ∧ op ≤ 14 := by unfold kidsF at h; split at h <;> (try split at h) <;> (try split at h) <;> omega
  refine ⟨y, h1, ?_, ?_⟩
  · rw [h2]; exact decide_eq_true h5
  · rw [h2]; show (if 1 ≤ op ∧ op ≤ 4 ∨ op < 5 ∨ 15 ≤ op then 0 else takes op) = kidsF op
    rw [if_neg (by omega)]; unfold takes kidsF
    repeat' split
    all_goals omega
theorem node_tr (regs : List Str) (hr : regs.length < 100000) : ∀ (t : Tr) (n : Nat) (pre post : List Nd) (out : List OpS) (ok : Bool), t.wf → pre.length + t.flat.length < 100000 → out.length + t.flat.length < 100000 → t.dep + regs.length + 10 < n →
    m_code_maker_node n (pre.length : Int) (pre ++ (t.flat ++ post)) out ok regs = some (((pre.length + t.flat.length : Nat) : Int), out ++ codeT (fun x => (leafT regs x).1) t, ok && okT (fun x => (leafT regs x).2) t) := by
  intro t
  induction t with
  | leaf x =>
    intro n pre post out ok h hp ho hn
    obtain ⟨n, rfl⟩ : ∃ j, n = j + 2 := ⟨n - 2, by omega⟩
    obtain ⟨y, e1, e2⟩ := of_leaf (n := n) h
    have g : idx (pre ++ ((Tr.leaf x).flat ++ post)) (pre.length : Int) = some x := by rw [idx_nat, List.getElem?_append_right (by simp)]; simp [Tr.flat]
    simp only [Tr.flat, List.length_cons, List.length_nil] at hp ho ⊢
    simp only [Tr.dep] at hn
    rw [node_step]
    simp only [Tr.flat] at g
    rw [g, Option.bind_some, e1, Option.bind_some, e2, cond_false, leafT_m _ regs x (by omega) (by omega), Option.bind_some, leafS, bif_decide (by omega), wrap_one pre.length (by omega)]
    rfl
  | un x a ih =>
    intro n pre post out ok h hp ho hn
    obtain ⟨n, rfl⟩ : ∃ j, n = j + 4 := ⟨n - 4, by omega⟩
    obtain ⟨h1, h2⟩ := h
    obtain ⟨y, e1, e2, e3⟩ := of_kids (n := n + 2) (.inl h1)
    have e : pre ++ ((Tr.un x a).flat ++ post) = (pre ++ [x]) ++ (a.flat ++ post) := by simp [Tr.flat]
    have hp1 : ((pre ++ [x]).length : Int) = (pre.length : Int) + 1 := by simp
    rw [e]
    have g : idx ((pre ++ [x]) ++ (a.flat ++ post)) (pre.length : Int) = some x := by rw [idx_nat, List.append_assoc, List.getElem?_append_right (by simp)]; simp
    simp only [Tr.flat, List.length_cons, Tr.dep] at hp ho hn ⊢
    have i1 := ih (n + 3) (pre ++ [x]) post out ok h2 (by simp; omega) (by omega) (by omega)
    rw [hp1] at i1
    rw [node_step, g, Option.bind_some, e1, Option.bind_some, e2, cond_true, nodeL_step, e3, h1, bif_decide (by omega), wrap64 (n := (pre.length : Int) + 1) (by omega), i1, Option.bind_some, nodeL_step, e3, h1, wrap64 (n := 0 + 1) (by omega), bif_not (by omega)]
    have hc := codeT_len (fun x => (leafT regs x).1) a
    simp only [Option.bind_some, afterL]
    rw [bif_decide (by rw [List.length_append, hc]; omega)]
    simp only [codeT, okT, List.append_assoc, List.length_append, List.length_cons, List.length_nil]
    congr 2; omega
  | bin x a b iha ihb =>
    intro n pre post out ok h hp ho hn
    obtain ⟨n, rfl⟩ : ∃ j, n = j + 5 := ⟨n - 5, by omega⟩
    obtain ⟨h1, h2, h3⟩ := h
    obtain ⟨y, e1, e2, e3⟩ := of_kids (n := n + 3) (.inr h1)
    have e : pre ++ ((Tr.bin x a b).flat ++ post) = (pre ++ [x]) ++ (a.flat ++ (b.flat ++ post)) := by simp [Tr.flat]
    have e5 : (pre ++ [x]) ++ (a.flat ++ (b.flat ++ post)) = (pre ++ [x] ++ a.flat) ++ (b.flat ++ post) := by simp
    have hp1 : ((pre ++ [x]).length : Int) = (pre.length : Int) + 1 := by simp
    have hp2 : (((pre ++ [x]).length + a.flat.length : Nat) : Int) = ((pre ++ [x] ++ a.flat).length : Int) := by simp; omega
    rw [e]
    have g : idx ((pre ++ [x]) ++ (a.flat ++ (b.flat ++ post))) (pre.length : Int) = some x := by rw [idx_nat, List.append_assoc, List.getElem?_append_right (by simp)]; simp
    simp only [Tr.flat, List.length_cons, List.length_append, Tr.dep] at hp ho hn ⊢
    have hca := codeT_len (fun x => (leafT regs x).1) a
    have hcb := codeT_len (fun x => (leafT regs x).1) b
    have i1 := iha (n + 4) (pre ++ [x]) (b.flat ++ post) out ok h2 (by simp; omega) (by omega) (by omega)
    have i2 := ihb (n + 4) (pre ++ [x] ++ a.flat) post (out ++ codeT (fun x => (leafT regs x).1) a) (ok && okT (fun x => (leafT regs x).2) a) h3 (by simp; omega) (by simp [hca]; omega) (by omega)
    rw [← e5, ← hp2] at i2
    rw [hp1] at i1
    rw [node_step, g, Option.bind_some, e1, Option.bind_some, e2, cond_true, nodeL_step, e3, h1, bif_decide (by omega), wrap64 (n := (pre.length : Int) + 1) (by omega), i1, Option.bind_some, nodeL_step, e3, h1, wrap64 (n := 0 + 1) (by omega), bif_decide (by omega), i2, Option.bind_some, nodeL_step, e3, h1, wrap64 (n := 0 + 1 + 1) (by omega), bif_not (by omega)]
    simp only [Option.bind_some, afterL]
    rw [bif_decide (by rw [List.length_append, List.length_append, hca, hcb]; omega)]
    simp only [codeT, okT, List.append_assoc, List.length_append, List.length_cons, List.length_nil, Bool.and_assoc]
    congr 2; omega
end Go.Proofs.Ytmnnkeejgkhgpaa
end

section
namespace Go.Proofs.Ytmnnkeejgkhgpaa
set_option linter.unusedVariables false
set_option linter.unusedSimpArgs false

/-- The lists of a program are no longer than so. -/
structure PB (p : S_api_Prog) (B : Nat) : Prop where
  b : B < 100000
  locs : p.f_Locs.length ≤ B
  thr : p.f_Threads.length ≤ B
  regs : ∀ t ∈ p.f_Threads, t.f_Regs.length ≤ B
end Go.Proofs.Ytmnnkeejgkhgpaa
end

section
namespace Go.Proofs.Ytmnnkeejgkhgpaa
set_option linter.unusedVariables false
set_option linter.unusedSimpArgs false

def opLeaf (x : Nd) : Bool := decide (1 ≤ x.f_Op ∧ x.f_Op ≤ 4)
theorem kids0 {x : Nd} : kidsF x.f_Op = 0 ↔ 1 ≤ x.f_Op ∧ x.f_Op ≤ 4 := by
  unfold kidsF; repeat' split
  all_goals omega
theorem okT_all {ok : Nd → Bool} : ∀ (t : Tr), t.wf → okT ok t = t.flat.all fun x => !opLeaf x || ok x := by
  intro t
  induction t with
  | leaf x => intro h; have := kids0.1 h; simp [okT, Tr.flat, opLeaf, this]
  | un x a ih =>
    intro h
    have : opLeaf x = false := decide_eq_false fun c => by have := kids0.2 c; have := h.1; omega
    simp [okT, Tr.flat, this, ih h.2]
  | bin x a b iha ihb =>
    intro h
    have : opLeaf x = false := decide_eq_false fun c => by have := kids0.2 c; have := h.1; omega
    simp [okT, Tr.flat, this, iha h.2.1, ihb h.2.2]
theorem exprOk_tree {l : List Nd} (h : exprOk l = true) : ∃ t : Tr, t.wf ∧ t.flat = l ∧ l.length ≤ 200 ∧ t.dep ≤ 30 ∧ 1 ≤ l.length ∧ l.all nodeOk = true := by
  simp only [exprOk, Bool.and_eq_true, decide_eq_true_eq] at h
  obtain ⟨h1, h2, h3, h4⟩ := h
  obtain ⟨t, t1, t2, _, _⟩ := of_endF1 h2
  rw [List.take_length] at t2
  have := depF_tr t [] 0 [] t1 (by omega)
  rw [List.append_nil, t2] at this
  rw [this] at h4
  simp [depF] at h4
  exact ⟨t, t1, t2, h1.2, by omega, h1.1, h3⟩
/-- An expression's code. -/
noncomputable def codeOf (l : List Nd) (lf : Nd → OpS × Bool) : List OpS × Bool :=
  if h : exprOk l = true then (bif okT (fun x => (lf x).2) (exprOk_tree h).choose then (codeT (fun x => (lf x).1) (exprOk_tree h).choose, true) else ([], false)) else ([], false)
theorem codeOf_cases (l : List Nd) (lf : Nd → OpS × Bool) : (exprOk l = false ∧ codeOf l lf = ([], false)) ∨ ∃ t : Tr, exprOk l = true ∧ t.wf ∧ t.flat = l ∧ l.length ≤ 200 ∧ t.dep ≤ 30 ∧ codeOf l lf = bif okT (fun x => (lf x).2) t then (codeT (fun x => (lf x).1) t, true) else ([], false) := by
  unfold codeOf
  by_cases h : exprOk l = true
  · obtain ⟨t1, t2, t3, t4, t5, _⟩ := (exprOk_tree h).choose_spec
    exact .inr ⟨_, h, t1, t2, t3, t4, dif_pos h⟩
  · exact .inl ⟨Bool.eq_false_iff.2 h, dif_neg h⟩
theorem thread_m (n : Nat) (l : List Nd) (regs : List Str) (hl : l.length < 10000) (hr : regs.length < 400) (hn : l.length + 900 < n) : m_code_Thread n l regs = some (codeOf l (leafT regs)) := by
  obtain ⟨n, rfl⟩ : ∃ j, n = j + 2 := ⟨n - 2, by omega⟩
  rw [m_code_Thread, m_code_made, eright_m _ _ (by omega) (by omega), Option.bind_some]
  rcases codeOf_cases l (leafT regs) with ⟨h, e⟩ | ⟨t, h, t1, t2, t3, t4, e⟩
  · rw [h, e]; rfl
  · rw [h, e]
    have := node_tr regs (by omega) t n [] [] [] true t1 (by simp [t2]; omega) (by simp [t2]; omega) (by omega)
    rw [List.nil_append, List.append_nil, t2] at this
    have this : m_code_maker_node n 0 l [] true regs = _ := this
    rw [cond_true, this]
    cases okT (fun x => (leafT regs x).2) t <;> rfl
theorem indexF_bound (l : List Str) (s : Str) : indexF l s = -1 ∨ ∃ j : Nat, indexF l s = j ∧ j < l.length := by
  unfold indexF
  cases hf : findF (fun x => x == s) l 0 with
  | none => exact .inl rfl
  | some j => obtain ⟨_, h2, _⟩ := findF_lt hf; exact .inr ⟨j, rfl, by omega⟩
end Go.Proofs.Ytmnnkeejgkhgpaa
end

section
namespace Go.Proofs.Ytmnnkeejgkhgpaa
set_option linter.unusedVariables false
set_option linter.unusedSimpArgs false

theorem known06b : m_law06_known 1999 = some true := by decide +kernel
theorem liesF_code (lf : Nd → OpS) (hlf : ∀ x, kidsF x.f_Op = 0 → takes (lf x).op = 0) : ∀ (t : Tr) (rest : List OpS) (n m : Int), t.wf → 0 ≤ n → ∃ d : Int, 1 ≤ d ∧ d ≤ (t.flat.length : Int) ∧ liesF (codeT lf t ++ rest) (n, m) = liesF rest (n + 1, max m (n + d)) := by
  intro t
  induction t with
  | leaf x =>
    intro rest n m h hn
    refine ⟨1, by omega, by simp [Tr.flat], ?_⟩
    simp only [codeT, List.cons_append, List.nil_append, liesF, hlf x h]
    rw [if_neg (by omega), show n + (1 - 0) = n + 1 by omega]
    congr 2; split <;> omega
  | un x a ih =>
    intro rest n m h hn
    obtain ⟨d, d1, d2, d3⟩ := ih ([⟨x.f_Op, 0, 0⟩] ++ rest) n m h.2 hn
    have h5 : x.f_Op = 5 := by
      have h1 := h.1; unfold kidsF at h1; repeat' split at h1
      all_goals omega
    refine ⟨d, d1, by simp only [Tr.flat, List.length_cons]; omega, ?_⟩
    simp only [codeT, List.append_assoc]
    rw [d3]
    simp only [List.cons_append, List.nil_append, liesF, h5]
    rw [if_neg (by show ¬ n + 1 < takes 5; have : takes 5 = 1 := rfl; omega), show takes 5 = 1 from rfl, show n + 1 + (1 - 1) = n + 1 by omega]
    congr 2; split <;> omega
  | bin x a b iha ihb =>
    intro rest n m h hn
    obtain ⟨d, d1, d2, d3⟩ := iha (codeT lf b ++ ([⟨x.f_Op, 0, 0⟩] ++ rest)) n m h.2.1 hn
    obtain ⟨e, e1, e2, e3⟩ := ihb ([⟨x.f_Op, 0, 0⟩] ++ rest) (n + 1) (max m (n + d)) h.2.2 (by omega)
    have h5 : takes x.f_Op = 2 := by
      have h1 := h.1; unfold kidsF at h1; unfold takes; repeat' split at h1
      all_goals (first | omega | rw [if_neg (by omega), if_neg (by omega), if_pos (by omega)])
    refine ⟨max d (1 + e), by omega, by simp only [Tr.flat, List.length_cons, List.length_append]; omega, ?_⟩
    simp only [codeT, List.append_assoc]
    rw [d3, e3]
    simp only [List.cons_append, List.nil_append, liesF, h5]
    rw [if_neg (by omega), show n + 1 + 1 + (1 - 2) = n + 1 by omega]
    congr 2; split <;> omega
theorem all_code {q : OpS → Prop} (lf : Nd → OpS) (hop : ∀ op : Int, 5 ≤ op → q ⟨op, 0, 0⟩) : ∀ (t : Tr), t.wf → (∀ x ∈ t.flat, kidsF x.f_Op = 0 → q (lf x)) → ∀ y ∈ codeT lf t, q y := by
  intro t
  have h5 : ∀ x : Nd, kidsF x.f_Op = 1 ∨ kidsF x.f_Op = 2 → 5 ≤ x.f_Op := by
    intro x h; unfold kidsF at h; repeat' split at h
    all_goals omega
  induction t with
  | leaf x => intro h hq y hy; simp only [codeT, List.mem_cons, List.not_mem_nil, or_false] at hy; subst hy; exact hq x (by simp [Tr.flat]) h
  | un x a ih =>
    intro h hq y hy
    rcases List.mem_append.1 hy with hy | hy
    · exact ih h.2 (fun z hz => hq z (by simp [Tr.flat, hz])) y hy
    · simp only [List.mem_cons, List.not_mem_nil, or_false] at hy; subst hy; exact hop _ (h5 x (.inl h.1))
  | bin x a b iha ihb =>
    intro h hq y hy
    rcases List.mem_append.1 hy with hy | hy
    · rcases List.mem_append.1 hy with hy | hy
      · exact iha h.2.1 (fun z hz => hq z (by simp [Tr.flat, hz])) y hy
      · exact ihb h.2.2 (fun z hz => hq z (by simp [Tr.flat, hz])) y hy
    · simp only [List.mem_cons, List.not_mem_nil, or_false] at hy; subst hy; exact hop _ (h5 x (.inr h.1))
theorem bounds_L (n : Nat) (mod : Int) (own : List Int) (m : Int) (hm : IntKind.i64.wrap (2 + Int.tmod (IntKind.i64.wrap mod) 15) = m) (h2 : 2 ≤ m ∧ m ≤ 16) (ho : ∀ v ∈ own, 0 ≤ v ∧ v ≤ 255) :
    ∀ (j k i : Nat) (s : List Int), i + j = 3 → j < k → s.length = 3 → (∀ v ∈ s, inR m v) → ∃ r, law06_CodeBounds_L0 n mod own k (i : Int) s = some (.out r) ∧ r.length = 3 ∧ ∀ v ∈ r, inR m v := by
  intro j
  induction j with
  | zero =>
    intro k i s hi hk hs hv
    obtain ⟨k, rfl⟩ : ∃ j, k = j + 1 := ⟨k - 1, by omega⟩
    refine ⟨s, ?_, hs, hv⟩
    rw [law06_CodeBounds_L0, bif_not (show ¬ (i : Int) < 3 by omega)]
    cases decide ((i : Int) < (own.length : Int)) <;> rfl
  | succ j ih =>
    intro k i s hi hk hs hv
    obtain ⟨k, rfl⟩ : ∃ j, k = j + 1 := ⟨k - 1, by omega⟩
    rw [law06_CodeBounds_L0, hm]
    by_cases c : (i : Int) < (own.length : Int)
    · have hlt : i < own.length := by omega
      have hin := ho own[i] (List.getElem_mem hlt)
      have hs' : i < s.length := by omega
      rw [bif_decide c, bif_decide (by omega), idx_get hlt, Option.bind_some, bif_not (by omega), idx_get hs', Option.bind_some, wrap_one i (by omega), wrap64 (n := own[i]) (by omega), Int.toNat_natCast]
      refine ih k (i + 1) _ (by omega) (by omega) (by simp [hs]) (fun v hv' => ?_)
      rcases List.mem_or_eq_of_mem_set hv' with h | h
      · exact hv v h
      · rw [h]; exact tmod_in h2.1 hin.1
    · exact ⟨s, by rw [bif_not c], hs, hv⟩
theorem codeBounds_m (l : List Nd) (mod : Int) (own : List Int) (h1 : (Lit.int .u8 mod).wf = true) (ho : ∀ v ∈ own, 0 ≤ v ∧ v ≤ 255) : m_law06_CodeBounds 2000 l mod own = some true := by
  have b1 := u8_range h1
  rw [m_law06_CodeBounds, known06b, rlightE_m 1999 l (by omega)]
  simp only [Option.bind_some]
  cases hl : lightE l with
  | false => rfl
  | true =>
  rw [cond_true]
  by_cases c : 20 < (own.length : Int)
  · rw [bif_decide c]
  rw [bif_not c]
  have hl2 : l.length ≤ 250 := by simp only [lightE, Bool.and_eq_true, decide_eq_true_eq] at hl; exact hl.1
  obtain ⟨m, hm, hm2⟩ : ∃ m, IntKind.i64.wrap (2 + Int.tmod (IntKind.i64.wrap mod) 15) = m ∧ 2 ≤ m ∧ m ≤ 16 := by
    refine ⟨_, rfl, ?_⟩
    rw [wrap64 (n := mod) (by omega), Int.tmod_eq_emod_of_nonneg b1.1, wrap64 (by omega)]; omega
  obtain ⟨r, r1, r2, r3⟩ := bounds_L 1999 mod own m hm hm2 ho 3 1999 0 [0, 0, 0] (by omega) (by omega) rfl (by intro v hv; simp at hv; subst hv; exact ⟨by omega, by omega⟩)
  have r1 : law06_CodeBounds_L0 1999 mod own 1999 0 [0, 0, 0] = _ := r1
  rw [thread_m 1999 l _ (by omega) (by simp) (by omega), hm, r1]
  simp only [Option.bind_some]
  generalize hregs : ([[97], [98], [114, 49]] : List Str) = regs
  have hrl : regs.length = 3 := by rw [← hregs]; rfl
  rcases codeOf_cases l (leafT regs) with ⟨h, e⟩ | ⟨t, h, t1, t2, t3, t4, e⟩
  · rw [e]; rfl
  cases hok : okT (fun x => (leafT regs x).2) t with
  | false => rw [e, hok]; rfl
  | true =>
  rw [e, hok, cond_true]
  have hlen := codeT_len (fun x => (leafT regs x).1) t
  rw [t2] at hlen
  rw [okT_all t t1, t2] at hok
  obtain ⟨_, _, _, _, _, _, hnodes⟩ := exprOk_tree h
  have hop : ∀ y ∈ codeT (fun x => (leafT regs x).1) t, opOk [] 3 0 y = true := by
    refine all_code (fun x => (leafT regs x).1) (fun op h5 => ?_) t t1 (fun x hx hk => ?_)
    · unfold opOk; rw [if_neg (by simp; omega), if_neg (by simp; omega), if_neg (by simp; omega), if_neg (by simp; omega)]
    · rw [t2] at hx
      have g1 := List.all_eq_true.1 hok x hx
      have g2 := List.all_eq_true.1 hnodes x hx
      have g3 := kids0.1 hk
      have g4 : opLeaf x = true := decide_eq_true g3
      rw [g4] at g1
      simp only [Bool.not_true, Bool.false_or] at g1
      unfold leafT at g1 ⊢
      by_cases c1 : x.f_Op = 1
      · rw [if_pos c1]
        simp only [nodeOk, c1, if_true, Bool.and_eq_true, decide_eq_true_eq] at g2
        have := g2.2.1
        unfold opOk
        rw [if_pos rfl, decide_eq_true_eq]
        exact ⟨this.1, by show x.f_N < 10000; omega⟩
      · rw [if_neg c1] at g1 ⊢
        simp only [Bool.and_eq_true, beq_iff_eq, bne_iff_ne] at g1
        rcases indexF_bound regs x.f_Name with q | ⟨j, q, q2⟩
        · exact absurd q g1.2
        · unfold opOk
          rw [if_neg (by simp), if_pos rfl, decide_eq_true_eq]
          show 0 ≤ indexF regs x.f_Name ∧ indexF regs x.f_Name < 3
          omega
  obtain ⟨d, d1, d2, d3⟩ := liesF_code (fun x => (leafT regs x).1) (fun x hx => by unfold leafT; split <;> rfl) t [] 0 0 t1 (by omega)
  rw [List.append_nil] at d3
  have d3 : liesF (codeT (fun x => (leafT regs x).1) t) (0, 0) = (1, max 0 (0 + d)) := d3
  have hcode : codeOk (codeT (fun x => (leafT regs x).1) t) [] 3 0 = true := by
    rw [codeOk, d3, List.all_eq_true.2 hop]; rfl
  have hval : valOk (codeT (fun x => (leafT regs x).1) t) m r [] [] = true := by
    rw [valOk, decide_eq_true hm2]
    have : belowB m r = true := List.all_eq_true.2 fun v hv => decide_eq_true (r3 v hv)
    rw [this, r2]; exact hcode
  obtain ⟨v, v1, v2⟩ := run_one hval (by omega)
  dsimp only at hlen ⊢
  generalize hcc : codeT (fun x => (leafT regs x).1) t = cc at *
  rw [value_m 1999 cc m r [] [] (by omega) (by omega) (by simp) (by simp) (by simp) (by omega) (by omega) (by simp) (by simp) (by simp) (by omega), valS, hval, v1, depth_m 1999 cc (by omega) (by omega), d3, cright_code 1999 cc _ _ _ (by omega) (by omega), hcode]
  have e0 : ([v] : List Int).getD 0 0 = v := rfl
  have hd : t.flat.length = l.length := by rw [t2]
  simp only [Option.bind_some, cond_true, e0]
  rw [bif_decide v2.1, bif_decide v2.2, bif_decide (by omega), bif_decide (by omega)]
end Go.Proofs.Ytmnnkeejgkhgpaa
end

section
namespace Go.Proofs.Ytmnnkeejgkhgpaa
set_option linter.unusedVariables false
set_option linter.unusedSimpArgs false
set_option maxRecDepth 100000

set_option maxHeartbeats 4000000 in
theorem ok_legal_Index (n : Nat) : ∀ (v0_l : (List (List UInt8))) (v1_name : (List UInt8)) (r : Int), m_legal_Index n v0_l v1_name = some r → callN Try.prog HH XT n 28 [AV.sl 1 (List.map encS (v0_l)), AV.str (v1_name)] [] = some (AV.int .i64 (r), []) := by
  cases n with
  | zero => intro v0_l v1_name r hm; exact absurd hm (by intro h; cases h)
  | succ n =>
    intro v0_l v1_name r hm
    rw [m_legal_Index] at hm
    refine callN_eq' Try.func28 (by rfl) rfl rfl (Nat.le_of_ble_eq_true rfl) ?_
    intro call hc
    conv => lhs; whnf
    refine bind_some2 hm ?_; clear hm; intro o9 ho9 hm
    refine rounds_sim (σ := Int) (τ := Unit) (ν := Int) 0 (fun s1 a3 => stOf 19 [(1, AV.str (v1_name)), (7, AV.sl 1 (List.map encS (v0_l))), (8, AV.int .i64 ((((v0_l).length : Nat) : Int))), (9, AV.int .i64 (s1))]) (fun s1 a3 => []) (fun _ a13 => stOf 19 []) (fun _ a13 => []) (fun v => (AV.int .i64 (v), [])) (fun k s => legal_Index_L0 n v0_l v1_name k s) (fun s => rfl) o9 ?_ n 0 (fun _ => 0) _ _ ho9 ?_ (by first | rfl | (simp only [ls, List.map_append, List.map_cons, List.map_nil, List.append_nil, List.length_set, length_copyL] <;> rfl)) (by first | rfl | (simp only [ls, List.map_append, List.map_cons, List.map_nil, List.append_nil, List.length_set, length_copyL] <;> rfl))
    · intro k2 ss a3 K4 cont5 hK6 hcont7 hm hr8
      obtain ⟨s1, rfl⟩ : ∃ x, x = ss := ⟨_, rfl⟩
      replace hm : legal_Index_L0 n v0_l v1_name (k2 + 1) s1 = some o9 := hm
      rw [legal_Index_L0] at hm
      conv => lhs; whnf
      refine bif_or2 hm ?_ ?_ <;> clear hm <;> intro hc10 hm
      · simp only [hc10, ls]
        conv => lhs; whnf
        refine bind_some2 hm ?_; clear hm; intro x11 hx11 hm
        refine bif_pos (by first | exact idx_in hx11 | exact idx_in' hx11) ?_
        simp only [idx_nth (f := encS) hx11, ls]
        conv => lhs; whnf
        refine bif_or2 hm ?_ ?_ <;> clear hm <;> intro hc12 hm
        · simp only [hc12, ls]
          conv => lhs; whnf
          have hq := Option.some.inj hm; clear hm; subst hq
          refine (hK6 _ _).trans ?_
          refine Eq.trans ?_ (Eq.symm (show _ = some _ from hr8))
          conv => lhs; whnf
          try simp only [ls]
          exact fq (y := some (AV.int .i64 (s1), []))
        · simp only [hc12, ls]
          conv => lhs; whnf
          exact cq (hcont7 (IntKind.i64.wrap (s1 + 1)) (fun _ => 0) hm)
      · simp only [hc10, ls]
        conv => lhs; whnf
        have hq := Option.some.inj hm; clear hm; subst hq
        exact kq (hr8 (fun _ => 0))
    · cases o9 with
      | ret v =>
        have hq := Option.some.inj hm; clear hm; subst hq
        rfl
      | out t =>
        intro a13
        dsimp only at hm
        conv => lhs; whnf
        have hq := Option.some.inj hm; clear hm; subst hq
        try simp only [ls]
        exact fq (y := some (AV.int .i64 ((-1)), []))

end Go.Proofs.Ytmnnkeejgkhgpaa
end

section
namespace Go.Proofs.Ytmnnkeejgkhgpaa
set_option linter.unusedVariables false
set_option linter.unusedSimpArgs false
set_option maxRecDepth 100000

set_option maxHeartbeats 4000000 in
theorem ok_code_of (n : Nat) : ∀ (v0_op : Int) (r : R_code_of), m_code_of n v0_op = some r → callN Try.prog HH XT n 37 [AV.int .i64 (v0_op)] [] = some ((match (r : R_code_of) with | .c0 y => AV.tup [AV.agg [AV.int .i64 ((y).1), AV.nilf], AV.bool ((y).2)] | .c1 y => AV.tup [AV.agg [AV.int .i64 ((y).1), AV.func 59 [] []], AV.bool ((y).2)] | .c2 y => AV.tup [AV.agg [AV.int .i64 ((y).1), AV.func 58 [] []], AV.bool ((y).2)] | .c3 y => AV.tup [AV.agg [AV.int .i64 ((y).1), AV.func 57 [] []], AV.bool ((y).2)] | .c4 y => AV.tup [AV.agg [AV.int .i64 ((y).1), AV.func 56 [] []], AV.bool ((y).2)] | .c5 y => AV.tup [AV.agg [AV.int .i64 ((y).1), AV.func 55 [] []], AV.bool ((y).2)] | .c6 y => AV.tup [AV.agg [AV.int .i64 ((y).1), AV.func 54 [] []], AV.bool ((y).2)] | .c7 y => AV.tup [AV.agg [AV.int .i64 ((y).1), AV.func 53 [] []], AV.bool ((y).2)] | .c8 y => AV.tup [AV.agg [AV.int .i64 ((y).1), AV.func 52 [] []], AV.bool ((y).2)] | .c9 y => AV.tup [AV.agg [AV.int .i64 ((y).1), AV.func 51 [] []], AV.bool ((y).2)] | .c10 y => AV.tup [AV.agg [AV.int .i64 ((y).1), AV.func 49 [] []], AV.bool ((y).2)]), (match (r : R_code_of) with | .c0 y => [] | .c1 y => [] | .c2 y => [] | .c3 y => [] | .c4 y => [] | .c5 y => [] | .c6 y => [] | .c7 y => [] | .c8 y => [] | .c9 y => [] | .c10 y => [])) := by
  cases n with
  | zero => intro v0_op r hm; exact absurd hm (by intro h; cases h)
  | succ n =>
    intro v0_op r hm
    rw [m_code_of] at hm
    refine callN_eq' Try.func37 (by rfl) rfl rfl (Nat.le_of_ble_eq_true rfl) ?_
    intro call hc
    conv => lhs; whnf
    refine bif_or2 hm ?_ ?_ <;> clear hm <;> intro hc1 hm
    · simp only [hc1, ls]
      conv => lhs; whnf
      have hq := Option.some.inj hm; clear hm; subst hq
      try simp only [ls]
      exact fq (y := some (AV.tup [AV.agg [AV.int .i64 (0), AV.nilf], AV.bool (false)], []))
    · simp only [hc1, ls]
      conv => lhs; whnf
      refine bif_or2 hm ?_ ?_ <;> clear hm <;> intro hc2 hm
      · simp only [hc2, ls]
        conv => lhs; whnf
        have hq := Option.some.inj hm; clear hm; subst hq
        try simp only [ls]
        exact fq (y := some (AV.tup [AV.agg [AV.int .i64 (0), AV.nilf], AV.bool (false)], []))
      · simp only [hc2, ls]
        conv => lhs; whnf
        refine bif_or2 hm ?_ ?_ <;> clear hm <;> intro hc3 hm
        · simp only [hc3, ls]
          conv => lhs; whnf
          have hq := Option.some.inj hm; clear hm; subst hq
          try simp only [ls]
          exact fq (y := some (AV.tup [AV.agg [AV.int .i64 (2), AV.func 59 [] []], AV.bool (true)], []))
        · simp only [hc3, ls]
          conv => lhs; whnf
          refine bif_or2 hm ?_ ?_ <;> clear hm <;> intro hc4 hm
          · simp only [hc4, ls]
            conv => lhs; whnf
            have hq := Option.some.inj hm; clear hm; subst hq
            try simp only [ls]
            exact fq (y := some (AV.tup [AV.agg [AV.int .i64 (2), AV.func 58 [] []], AV.bool (true)], []))
          · simp only [hc4, ls]
            conv => lhs; whnf
            refine bif_or2 hm ?_ ?_ <;> clear hm <;> intro hc5 hm
            · simp only [hc5, ls]
              conv => lhs; whnf
              have hq := Option.some.inj hm; clear hm; subst hq
              try simp only [ls]
              exact fq (y := some (AV.tup [AV.agg [AV.int .i64 (2), AV.func 57 [] []], AV.bool (true)], []))
            · simp only [hc5, ls]
              conv => lhs; whnf
              refine bif_or2 hm ?_ ?_ <;> clear hm <;> intro hc6 hm
              · simp only [hc6, ls]
                conv => lhs; whnf
                have hq := Option.some.inj hm; clear hm; subst hq
                try simp only [ls]
                exact fq (y := some (AV.tup [AV.agg [AV.int .i64 (2), AV.func 56 [] []], AV.bool (true)], []))
              · simp only [hc6, ls]
                conv => lhs; whnf
                refine bif_or2 hm ?_ ?_ <;> clear hm <;> intro hc7 hm
                · simp only [hc7, ls]
                  conv => lhs; whnf
                  have hq := Option.some.inj hm; clear hm; subst hq
                  try simp only [ls]
                  exact fq (y := some (AV.tup [AV.agg [AV.int .i64 (2), AV.func 55 [] []], AV.bool (true)], []))
                · simp only [hc7, ls]
                  conv => lhs; whnf
                  refine bif_or2 hm ?_ ?_ <;> clear hm <;> intro hc8 hm
                  · simp only [hc8, ls]
                    conv => lhs; whnf
                    have hq := Option.some.inj hm; clear hm; subst hq
                    try simp only [ls]
                    exact fq (y := some (AV.tup [AV.agg [AV.int .i64 (2), AV.func 54 [] []], AV.bool (true)], []))
                  · simp only [hc8, ls]
                    conv => lhs; whnf
                    refine bif_or2 hm ?_ ?_ <;> clear hm <;> intro hc9 hm
                    · simp only [hc9, ls]
                      conv => lhs; whnf
                      have hq := Option.some.inj hm; clear hm; subst hq
                      try simp only [ls]
                      exact fq (y := some (AV.tup [AV.agg [AV.int .i64 (2), AV.func 53 [] []], AV.bool (true)], []))
                    · simp only [hc9, ls]
                      conv => lhs; whnf
                      refine bif_or2 hm ?_ ?_ <;> clear hm <;> intro hc10 hm
                      · simp only [hc10, ls]
                        conv => lhs; whnf
                        have hq := Option.some.inj hm; clear hm; subst hq
                        try simp only [ls]
                        exact fq (y := some (AV.tup [AV.agg [AV.int .i64 (2), AV.func 52 [] []], AV.bool (true)], []))
                      · simp only [hc10, ls]
                        conv => lhs; whnf
                        refine bif_or2 hm ?_ ?_ <;> clear hm <;> intro hc11 hm
                        · simp only [hc11, ls]
                          conv => lhs; whnf
                          have hq := Option.some.inj hm; clear hm; subst hq
                          try simp only [ls]
                          exact fq (y := some (AV.tup [AV.agg [AV.int .i64 (2), AV.func 51 [] []], AV.bool (true)], []))
                        · simp only [hc11, ls]
                          conv => lhs; whnf
                          refine bif_or2 hm ?_ ?_ <;> clear hm <;> intro hc12 hm
                          · simp only [hc12, ls]
                            conv => lhs; whnf
                            have hq := Option.some.inj hm; clear hm; subst hq
                            try simp only [ls]
                            exact fq (y := some (AV.tup [AV.agg [AV.int .i64 (1), AV.func 49 [] []], AV.bool (true)], []))
                          · simp only [hc12, ls]
                            conv => lhs; whnf
                            refine bif_or2 hm ?_ ?_ <;> clear hm <;> intro hc13 hm
                            · simp only [hc13, ls]
                              conv => lhs; whnf
                              have hq := Option.some.inj hm; clear hm; subst hq
                              try simp only [ls]
                              exact fq (y := some (AV.tup [AV.agg [AV.int .i64 (0), AV.nilf], AV.bool (true)], []))
                            · simp only [hc13, ls]
                              conv => lhs; whnf
                              refine bif_or2 hm ?_ ?_ <;> clear hm <;> intro hc14 hm
                              · simp only [hc14, ls]
                                conv => lhs; whnf
                                have hq := Option.some.inj hm; clear hm; subst hq
                                try simp only [ls]
                                exact fq (y := some (AV.tup [AV.agg [AV.int .i64 (0), AV.nilf], AV.bool (true)], []))
                              · simp only [hc14, ls]
                                conv => lhs; whnf
                                refine bif_or2 hm ?_ ?_ <;> clear hm <;> intro hc15 hm
                                · simp only [hc15, ls]
                                  conv => lhs; whnf
                                  have hq := Option.some.inj hm; clear hm; subst hq
                                  try simp only [ls]
                                  exact fq (y := some (AV.tup [AV.agg [AV.int .i64 (0), AV.nilf], AV.bool (true)], []))
                                · simp only [hc15, ls]
                                  conv => lhs; whnf
                                  refine bif_or2 hm ?_ ?_ <;> clear hm <;> intro hc16 hm
                                  · simp only [hc16, ls]
                                    conv => lhs; whnf
                                    have hq := Option.some.inj hm; clear hm; subst hq
                                    try simp only [ls]
                                    exact fq (y := some (AV.tup [AV.agg [AV.int .i64 (0), AV.nilf], AV.bool (true)], []))
                                  · simp only [hc16, ls]
                                    conv => lhs; whnf
                                    refine bif_or2 hm ?_ ?_ <;> clear hm <;> intro hc17 hm
                                    · simp only [hc17, ls]
                                      conv => lhs; whnf
                                      have hq := Option.some.inj hm; clear hm; subst hq
                                      try simp only [ls]
                                      exact fq (y := some (AV.tup [AV.agg [AV.int .i64 (0), AV.nilf], AV.bool (true)], []))
                                    · cases hm
end Go.Proofs.Ytmnnkeejgkhgpaa
end

section
namespace Go.Proofs.Ytmnnkeejgkhgpaa
set_option linter.unusedVariables false
set_option linter.unusedSimpArgs false
set_option maxRecDepth 100000

set_option maxHeartbeats 4000000 in
theorem ok_expr_kids (n : Nat) : ∀ (v0_op : Int) (r : Int), m_expr_kids n v0_op = some r → callN Try.prog HH XT n 65 [AV.int .i64 (v0_op)] [] = some (AV.int .i64 (r), []) := by
  cases n with
  | zero => intro v0_op r hm; exact absurd hm (by intro h; cases h)
  | succ n =>
    intro v0_op r hm
    rw [m_expr_kids] at hm
    refine callN_eq' Try.func65 (by rfl) rfl rfl (Nat.le_of_ble_eq_true rfl) ?_
    intro call hc
    conv => lhs; whnf
    refine bif_or2 hm ?_ ?_ <;> clear hm <;> intro hc1 hm
    · simp only [hc1, ls]
      conv => lhs; whnf
      refine bif_or2 hm ?_ ?_ <;> clear hm <;> intro hc2 hm
      · simp only [hc2, ls]
        conv => lhs; whnf
        have hq := Option.some.inj hm; clear hm; subst hq
        try simp only [ls]
        exact fq (y := some (AV.int .i64 (0), []))
      · simp only [hc2, ls]
        conv => lhs; whnf
        refine bif_or2 hm ?_ ?_ <;> clear hm <;> intro hc3 hm
        · simp only [hc3, ls]
          conv => lhs; whnf
          have hq := Option.some.inj hm; clear hm; subst hq
          try simp only [ls]
          exact fq (y := some (AV.int .i64 (1), []))
        · simp only [hc3, ls]
          conv => lhs; whnf
          refine bif_or2 hm ?_ ?_ <;> clear hm <;> intro hc4 hm
          · simp only [hc4, ls]
            conv => lhs; whnf
            refine bif_or2 hm ?_ ?_ <;> clear hm <;> intro hc5 hm
            · simp only [hc5, ls]
              conv => lhs; whnf
              have hq := Option.some.inj hm; clear hm; subst hq
              try simp only [ls]
              exact fq (y := some (AV.int .i64 (2), []))
            · simp only [hc5, ls]
              conv => lhs; whnf
              have hq := Option.some.inj hm; clear hm; subst hq
              try simp only [ls]
              exact fq (y := some (AV.int .i64 ((-1)), []))
          · simp only [hc4, ls]
            conv => lhs; whnf
            have hq := Option.some.inj hm; clear hm; subst hq
            try simp only [ls]
            exact fq (y := some (AV.int .i64 ((-1)), []))
    · simp only [hc1, ls]
      conv => lhs; whnf
      refine bif_or2 hm ?_ ?_ <;> clear hm <;> intro hc6 hm
      · simp only [hc6, ls]
        conv => lhs; whnf
        have hq := Option.some.inj hm; clear hm; subst hq
        try simp only [ls]
        exact fq (y := some (AV.int .i64 (1), []))
      · simp only [hc6, ls]
        conv => lhs; whnf
        refine bif_or2 hm ?_ ?_ <;> clear hm <;> intro hc7 hm
        · simp only [hc7, ls]
          conv => lhs; whnf
          refine bif_or2 hm ?_ ?_ <;> clear hm <;> intro hc8 hm
          · simp only [hc8, ls]
            conv => lhs; whnf
            have hq := Option.some.inj hm; clear hm; subst hq
            try simp only [ls]
            exact fq (y := some (AV.int .i64 (2), []))
          · simp only [hc8, ls]
            conv => lhs; whnf
            have hq := Option.some.inj hm; clear hm; subst hq
            try simp only [ls]
            exact fq (y := some (AV.int .i64 ((-1)), []))
        · simp only [hc7, ls]
          conv => lhs; whnf
          have hq := Option.some.inj hm; clear hm; subst hq
          try simp only [ls]
          exact fq (y := some (AV.int .i64 ((-1)), []))

set_option maxHeartbeats 4000000 in
theorem ok_expr_End (n : Nat) : ∀ (v0_l : (List S_api_Node)) (v1_i : Int) (r : Int), m_expr_End n v0_l v1_i = some r → callN Try.prog HH XT n 60 [AV.sl 5 (List.map c_api_Node (v0_l)), AV.int .i64 (v1_i)] [] = some (AV.int .i64 (r), []) := by
  cases n with
  | zero => intro v0_l v1_i r hm; exact absurd hm (by intro h; cases h)
  | succ n =>
    intro v0_l v1_i r hm
    rw [m_expr_End] at hm
    refine callN_eq' Try.func60 (by rfl) rfl rfl (Nat.le_of_ble_eq_true rfl) ?_
    intro call hc
    conv => lhs; whnf
    refine bif_or2 hm ?_ ?_ <;> clear hm <;> intro hc1 hm
    · simp only [hc1, ls]
      conv => lhs; whnf
      have hq := Option.some.inj hm; clear hm; subst hq
      try simp only [ls]
      exact fq (y := some (AV.int .i64 ((-1)), []))
    · simp only [hc1, ls]
      conv => lhs; whnf
      refine bind_some2 hm ?_; clear hm; intro o11 ho11 hm
      refine rounds_sim (σ := (Int × Int)) (τ := Unit) (ν := Int) 0 (fun (s2, s3) a5 => stOf 31 [(0, AV.sl 5 (List.map c_api_Node (v0_l))), (1, AV.int .i64 (s2)), (5, AV.int .i64 (s3))]) (fun (s2, s3) a5 => []) (fun _ a18 => stOf 31 []) (fun _ a18 => []) (fun v => (AV.int .i64 (v), [])) (fun k s => expr_End_L0 n v0_l k ((s).1) ((s).2)) (fun s => rfl) o11 ?_ n (v1_i, 1) (fun _ => 0) _ _ ho11 ?_ (by first | rfl | (simp only [ls, List.map_append, List.map_cons, List.map_nil, List.append_nil, List.length_set, length_copyL] <;> rfl)) (by first | rfl | (simp only [ls, List.map_append, List.map_cons, List.map_nil, List.append_nil, List.length_set, length_copyL] <;> rfl))
      · intro k4 ss a5 K6 cont7 hK8 hcont9 hm hr10
        obtain ⟨s2, s3⟩ := ss
        replace hm : expr_End_L0 n v0_l (k4 + 1) s2 s3 = some o11 := hm
        rw [expr_End_L0] at hm
        conv => lhs; whnf
        refine bif_or2 hm ?_ ?_ <;> clear hm <;> intro hc12 hm
        · simp only [hc12, ls]
          conv => lhs; whnf
          refine bind_some2 hm ?_; clear hm; intro x13 hx13 hm
          refine bif_pos (by first | exact idx_in hx13 | exact idx_in' hx13) ?_
          simp only [idx_nth (f := c_api_Node) hx13, ls]
          conv => lhs; whnf
          refine bind_some2 hm ?_; clear hm; intro y14 hy14 hm
          have hk15 : call false 65 [AV.int .i64 (x13.f_Op)] [] = some (AV.int .i64 (y14), []) := (hc _ _ _).trans (ok_expr_kids n x13.f_Op y14 hy14)
          try simp only [List.drop_zero, ls]
          first | simp only [hk15] | rewrite [hk15]
          try simp only [ls]
          conv => lhs; whnf
          refine bif_or2 hm ?_ ?_ <;> clear hm <;> intro hc16 hm
          · simp only [hc16, ls]
            conv => lhs; whnf
            have hq := Option.some.inj hm; clear hm; subst hq
            refine (hK8 _ _).trans ?_
            refine Eq.trans ?_ (Eq.symm (show _ = some _ from hr10))
            conv => lhs; whnf
            try simp only [ls]
            exact fq (y := some (AV.int .i64 ((-1)), []))
          · simp only [hc16, ls]
            conv => lhs; whnf
            refine bif_or2 hm ?_ ?_ <;> clear hm <;> intro hc17 hm
            · simp only [hc17, ls]
              conv => lhs; whnf
              have hq := Option.some.inj hm; clear hm; subst hq
              refine (hK8 _ _).trans ?_
              refine Eq.trans ?_ (Eq.symm (show _ = some _ from hr10))
              conv => lhs; whnf
              try simp only [ls]
              exact fq (y := some (AV.int .i64 (IntKind.i64.wrap (s2 + 1)), []))
            · simp only [hc17, ls]
              conv => lhs; whnf
              exact cq (hcont9 (IntKind.i64.wrap (s2 + 1), IntKind.i64.wrap (s3 + (IntKind.i64.wrap (y14 - 1)))) (fun _ => 0) hm)
        · simp only [hc12, ls]
          conv => lhs; whnf
          have hq := Option.some.inj hm; clear hm; subst hq
          exact kq (hr10 (fun _ => 0))
      · cases o11 with
        | ret v =>
          have hq := Option.some.inj hm; clear hm; subst hq
          rfl
        | out t =>
          intro a18
          dsimp only at hm
          conv => lhs; whnf
          have hq := Option.some.inj hm; clear hm; subst hq
          try simp only [ls]
          exact fq (y := some (AV.int .i64 ((-1)), []))

set_option maxHeartbeats 4000000 in
theorem ok_expr_depth (n : Nat) : ∀ (v0_l : (List S_api_Node)) (r : Int), m_expr_depth n v0_l = some r → callN Try.prog HH XT n 62 [AV.sl 5 (List.map c_api_Node (v0_l))] [] = some (AV.int .i64 (r), []) := by
  cases n with
  | zero => intro v0_l r hm; exact absurd hm (by intro h; cases h)
  | succ n =>
    intro v0_l r hm
    rw [m_expr_depth] at hm
    refine callN_eq' Try.func62 (by rfl) rfl rfl (Nat.le_of_ble_eq_true rfl) ?_
    intro call hc
    conv => lhs; whnf
    refine bind_some2 hm ?_; clear hm; intro o11 ho11 hm
    refine rounds_sim (σ := (Int × Int × (List Int))) (τ := (Int × (List Int))) (ν := Int) 0 (fun (s1, s2, s3) a5 => stOf 50 [(3, AV.stk 0 (a5 0) (List.length (s3))), (4, AV.int .i64 (s1)), (9, AV.sl 5 (List.map c_api_Node (v0_l))), (10, AV.int .i64 ((((v0_l).length : Nat) : Int))), (11, AV.int .i64 (s2))]) (fun (s1, s2, s3) a5 => [Ob.stk (a5 0) 3 1 (List.map encI (s3))]) (fun (x41, x42) a40 => stOf 50 [(4, AV.int .i64 (x41))]) (fun (x41, x42) a40 => [Ob.stk (a40 0) 3 1 (List.map encI (x42))]) (fun v => (AV.int .i64 (v), [])) (fun k s => expr_depth_L0 n v0_l k ((s).1) ((s).2.1) ((s).2.2)) (fun s => rfl) o11 ?_ n (0, 0, ([] : List Int)) (fun j => (bif Nat.beq j 0 then 0 else 0)) _ _ ho11 ?_ (by first | rfl | (simp only [ls, List.map_append, List.map_cons, List.map_nil, List.append_nil, List.length_set, length_copyL] <;> rfl)) (by first | rfl | (simp only [ls, List.map_append, List.map_cons, List.map_nil, List.append_nil, List.length_set, length_copyL] <;> rfl))
    · intro k4 ss a5 K6 cont7 hK8 hcont9 hm hr10
      obtain ⟨s1, s2, s3⟩ := ss
      replace hm : expr_depth_L0 n v0_l (k4 + 1) s1 s2 s3 = some o11 := hm
      rw [expr_depth_L0] at hm
      conv => lhs; whnf
      refine bif_or2 hm ?_ ?_ <;> clear hm <;> intro hc12 hm
      · simp only [hc12, ls]
        conv => lhs; whnf
        refine bind_some2 hm ?_; clear hm; intro x13 hx13 hm
        refine bif_pos (by first | exact idx_in hx13 | exact idx_in' hx13) ?_
        simp only [idx_nth (f := c_api_Node) hx13, ls]
        conv => lhs; whnf
        refine bind_some2 hm ?_; clear hm; intro y14 hy14 hm
        have hk15 : call false 65 [AV.int .i64 (x13.f_Op)] [] = some (AV.int .i64 (y14), []) := (hc _ _ _).trans (ok_expr_kids n x13.f_Op y14 hy14)
        try simp only [List.drop_zero, ls]
        first | simp only [hk15] | rewrite [hk15]
        try simp only [ls]
        conv => lhs; whnf
        refine bif_or2 hm ?_ ?_ <;> clear hm <;> intro hc16 hm
        · simp only [hc16, ls]
          conv => lhs; whnf
          refine chk_some2 hm ?_; clear hm; intro hc19 hm
          try simp only [dec_self]
          conv => lhs; whnf
          refine bif_pos (app_row hc19 (by first | rfl | simp only [List.length_map]) (by first | rfl | simp only [List.length_map]) (by first | rfl | simp only [List.length_map, take_map_len]) (by kernel_rfl)) ?_
          try simp only [lt]
          have hp17 : (List.map encI (s3) : List (List AV)) ++ [[AV.int .i64 (y14)]] = List.map encI (s3 ++ ([y14] : List Int)) := by first | rfl | (rw [List.map_append]; rfl) | (rw [List.map_append]; done) | (simp only [List.map_append, List.map_cons, List.map_nil, List.nil_append, encI] <;> rfl)
          have hl18 : List.length (List.map encI (s3) : List (List AV)) + List.length ([[AV.int .i64 (y14)]] : List (List AV)) = List.length (s3 ++ ([y14] : List Int)) := by simp only [List.length_map, List.length_append] <;> rfl
          have hl18_b : List.length s3 + List.length ([[AV.int .i64 (y14)]] : List (List AV)) = List.length (s3 ++ ([y14] : List Int)) := by simp only [List.length_map, List.length_append] <;> rfl
          have hl18_c : List.length s3 + List.length ([y14] : List Int) = List.length (s3 ++ ([y14] : List Int)) := by simp only [List.length_map, List.length_append] <;> rfl
          first | simp only [hp17, hl18] | (simp only [List.length_map, take_map_len]; simp only [hp17, hl18_b, hl18_c])
          try simp only [ls]
          conv => lhs; whnf
          exact cq (hcont9 ((if s1 < (((s3).length : Nat) : Int) then (((s3).length : Nat) : Int) else s1), IntKind.i64.wrap (s2 + 1), (s3 ++ ([y14] : List Int))) (fun j => (bif Nat.beq j 0 then ((a5 0) + 1) else 0)) hm)
        · simp only [hc16, ls]
          conv => lhs; whnf
          refine bind_some2 hm ?_; clear hm; intro o28 ho28 hm
          refine rounds_sim (σ := (List Int)) (τ := (List Int)) (ν := Int) 2 (fun s20 a22 => stOf 50 [(3, AV.stk 0 (a22 0) (List.length (s20))), (4, AV.int .i64 ((if s1 < (((s3).length : Nat) : Int) then (((s3).length : Nat) : Int) else s1))), (9, AV.sl 5 (List.map c_api_Node (v0_l))), (10, AV.int .i64 ((((v0_l).length : Nat) : Int))), (11, AV.int .i64 (s2))]) (fun s20 a22 => [Ob.stk (a22 0) 3 1 (List.map encI (s20)), Ob.var 57 [AV.int .i64 (x13.f_Op), AV.int .i64 (x13.f_N), AV.str (x13.f_Name), AV.str (x13.f_In), AV.int .i64 (x13.f_At)]]) (fun x38 a37 => stOf 50 [(3, AV.stk 0 (a37 0) (List.length (x38))), (4, AV.int .i64 ((if s1 < (((s3).length : Nat) : Int) then (((s3).length : Nat) : Int) else s1))), (9, AV.sl 5 (List.map c_api_Node (v0_l))), (10, AV.int .i64 ((((v0_l).length : Nat) : Int))), (11, AV.int .i64 (s2))]) (fun x38 a37 => [Ob.stk (a37 0) 3 1 (List.map encI (x38)), Ob.var 57 [AV.int .i64 (x13.f_Op), AV.int .i64 (x13.f_N), AV.str (x13.f_Name), AV.str (x13.f_In), AV.int .i64 (x13.f_At)]]) (fun v => (AV.int .i64 (v), [])) (fun k s => expr_depth_L1 n k s) (fun s => rfl) o28 ?_ n s3 (fun j => (bif Nat.beq j 0 then (a5 0) else 0)) _ _ ho28 ?_ (by first | rfl | (simp only [ls, List.map_append, List.map_cons, List.map_nil, List.append_nil, List.length_set, length_copyL] <;> rfl)) (by first | rfl | (simp only [ls, List.map_append, List.map_cons, List.map_nil, List.append_nil, List.length_set, length_copyL] <;> rfl))
          · intro k21 ss a22 K23 cont24 hK25 hcont26 hm hr27
            obtain ⟨s20, rfl⟩ : ∃ x, x = ss := ⟨_, rfl⟩
            replace hm : expr_depth_L1 n (k21 + 1) s20 = some o28 := hm
            rw [expr_depth_L1] at hm
            conv => lhs; whnf
            refine bif_or2 hm ?_ ?_ <;> clear hm <;> intro hc29 hm
            · simp only [hc29, ls]
              conv => lhs; whnf
              refine bind_some2 hm ?_; clear hm; intro x30 hx30 hm
              try simp only [dec_self]
              conv => lhs; whnf
              try simp only [ls]
              refine bif_pos (by first | exact idx_in hx30 | exact idx_in' hx30 | exact own_in hx30 | exact own_in' hx30 | (have q := idx_in hx30; simp only [List.length_set] at q; exact q) | (have q := own_in' hx30; simp only [List.length_set, Nat.zero_add] at q ⊢; exact q)) ?_
              conv => lhs; whnf
              try simp only [idx_nth (f := encI) hx30, dec_self, ls]
              conv => lhs; whnf
              refine bind_some2 hm ?_; clear hm; intro x31 hx31 hm
              try simp only [dec_self]
              conv => lhs; whnf
              try simp only [ls]
              refine bif_pos (by first | exact idx_in hx31 | exact idx_in' hx31 | exact own_in hx31 | exact own_in' hx31 | (have q := idx_in hx31; simp only [List.length_set] at q; exact q) | (have q := own_in' hx31; simp only [List.length_set, Nat.zero_add] at q ⊢; exact q)) ?_
              conv => lhs; whnf
              try simp only [idx_nth (f := encI) hx31, dec_self, ls]
              conv => lhs; whnf
              have hs32 : setNth (List.map encI s20) (IntKind.i64.wrap ((((s20).length : Nat) : Int) - 1)).toNat [AV.int .i64 (IntKind.i64.wrap (x30 - 1))] = List.map encI (List.set s20 (IntKind.i64.wrap ((((s20).length : Nat) : Int) - 1)).toNat (IntKind.i64.wrap (x30 - 1))) := by rw [setNth_eq, List.map_set]; rfl
              have hs32_u : setNth (List.map encI s20) (IntKind.i64.wrap ((((s20).length : Nat) : Int) - 1)).toNat (updL (encI x31) 0 [AV.int .i64 (IntKind.i64.wrap (x30 - 1))]) = List.map encI (List.set s20 (IntKind.i64.wrap ((((s20).length : Nat) : Int) - 1)).toNat (IntKind.i64.wrap (x30 - 1))) := by rw [setNth_eq, List.map_set]; rfl
              try simp only [idx_nth (f := encI) hx31, dec_self]
              conv => lhs; whnf
              try simp only [hs32, hs32_u, dec_self]
              conv => lhs; whnf
              refine bind_some2 hm ?_; clear hm; intro x33 hx33 hm
              try simp only [dec_self]
              conv => lhs; whnf
              try simp only [ls]
              refine bif_pos (by first | exact idx_in hx33 | exact idx_in' hx33 | exact own_in hx33 | exact own_in' hx33 | (have q := idx_in hx33; simp only [List.length_set] at q; exact q) | (have q := own_in' hx33; simp only [List.length_set, Nat.zero_add] at q ⊢; exact q)) ?_
              conv => lhs; whnf
              try simp only [idx_nth (f := encI) hx33, dec_self, ls]
              conv => lhs; whnf
              refine bif_or2 hm ?_ ?_ <;> clear hm <;> intro hc34 hm
              · simp only [hc34, ls]
                conv => lhs; whnf
                have hq := Option.some.inj hm; clear hm; subst hq
                exact kq (hr27 (fun j => (bif Nat.beq j 0 then (a22 0) else 0)))
              · simp only [hc34, ls]
                conv => lhs; whnf
                refine chk_some2 hm ?_; clear hm; intro hc36 hm
                try simp only [dec_self]
                conv => lhs; whnf
                try simp only [ls]
                first | refine bif_pos hc36 ?_ | (refine bif_pos (by have q := hc36; simp only [List.length_set] at q; exact q) ?_)
                have hs35 : List.take ((IntKind.i64.wrap ((((s20).length : Nat) : Int) - 1)).toNat) (List.map encI (List.set s20 (IntKind.i64.wrap ((((s20).length : Nat) : Int) - 1)).toNat (IntKind.i64.wrap (x30 - 1)))) = List.map encI (List.take ((IntKind.i64.wrap ((((s20).length : Nat) : Int) - 1)).toNat) (List.set s20 (IntKind.i64.wrap ((((s20).length : Nat) : Int) - 1)).toNat (IntKind.i64.wrap (x30 - 1)))) := by rw [List.map_take]
                have hs35_l : List.length (List.take ((IntKind.i64.wrap ((((s20).length : Nat) : Int) - 1)).toNat) (List.set s20 (IntKind.i64.wrap ((((s20).length : Nat) : Int) - 1)).toNat (IntKind.i64.wrap (x30 - 1)))) = (IntKind.i64.wrap ((((s20).length : Nat) : Int) - 1)).toNat := by simp only [List.length_take]; exact Nat.min_eq_left (cut_le hc36)
                conv => lhs; whnf
                try simp only [dec_self, hs35]
                conv => lhs; whnf
                try simp only [hs35]
                have hs35_s : ∀ q, AV.stk 0 q ((IntKind.i64.wrap ((((s20).length : Nat) : Int) - 1)).toNat) = AV.stk 0 q (List.length (List.take ((IntKind.i64.wrap ((((s20).length : Nat) : Int) - 1)).toNat) (List.set s20 (IntKind.i64.wrap ((((s20).length : Nat) : Int) - 1)).toNat (IntKind.i64.wrap (x30 - 1))))) := fun q => by rw [hs35_l]
                try simp only [hs35_s]
                conv => lhs; whnf
                exact cq (hcont26 (List.take ((IntKind.i64.wrap ((((s20).length : Nat) : Int) - 1)).toNat) (List.set s20 (IntKind.i64.wrap ((((s20).length : Nat) : Int) - 1)).toNat (IntKind.i64.wrap (x30 - 1)))) (fun j => (bif Nat.beq j 0 then ((a22 0) + 1) else 0)) hm)
            · simp only [hc29, ls]
              conv => lhs; whnf
              have hq := Option.some.inj hm; clear hm; subst hq
              exact kq (hr27 (fun j => (bif Nat.beq j 0 then (a22 0) else 0)))
          · cases o28 with
            | ret v =>
              have hq := Option.some.inj hm; clear hm; subst hq
              exact hr10
            | out t =>
              obtain ⟨x38, rfl⟩ : ∃ x, x = t := ⟨_, rfl⟩
              intro a37
              dsimp only at hm
              conv => lhs; whnf
              exact cq (hcont9 ((if s1 < (((s3).length : Nat) : Int) then (((s3).length : Nat) : Int) else s1), IntKind.i64.wrap (s2 + 1), x38) (fun j => (bif Nat.beq j 0 then (a37 0) else 0)) hm)
      · simp only [hc12, ls]
        conv => lhs; whnf
        have hq := Option.some.inj hm; clear hm; subst hq
        exact kq (hr10 (fun j => (bif Nat.beq j 0 then (a5 0) else 0)))
    · cases o11 with
      | ret v =>
        have hq := Option.some.inj hm; clear hm; subst hq
        rfl
      | out t =>
        obtain ⟨x41, x42⟩ := t
        intro a40
        dsimp only at hm
        conv => lhs; whnf
        have hq := Option.some.inj hm; clear hm; subst hq
        try simp only [ls]
        exact fq (y := some (AV.int .i64 (x41), []))

set_option maxHeartbeats 4000000 in
theorem ok_expr_fits (n : Nat) : ∀ (v0_x : S_api_Node) (r : Bool), m_expr_fits n v0_x = some r → callN Try.prog HH XT n 61 [AV.agg [AV.int .i64 (v0_x.f_Op), AV.int .i64 (v0_x.f_N), AV.str (v0_x.f_Name), AV.str (v0_x.f_In), AV.int .i64 (v0_x.f_At)]] [] = some (AV.bool (r), []) := by
  cases n with
  | zero => intro v0_x r hm; exact absurd hm (by intro h; cases h)
  | succ n =>
    intro v0_x r hm
    rw [m_expr_fits] at hm
    refine callN_eq' Try.func61 (by rfl) rfl rfl (Nat.le_of_ble_eq_true rfl) ?_
    intro call hc
    conv => lhs; whnf
    refine bif_or2 hm ?_ ?_ <;> clear hm <;> intro hc1 hm
    · simp only [hc1, ls]
      conv => lhs; whnf
      have hq := Option.some.inj hm; clear hm; subst hq
      try simp only [ls]
      exact fq (y := some (AV.bool (false), []))
    · simp only [hc1, ls]
      conv => lhs; whnf
      refine bif_or2 hm ?_ ?_ <;> clear hm <;> intro hc2 hm
      · simp only [hc2, ls]
        conv => lhs; whnf
        have hf5 : flatT Try.prog 57 = some (fieldsOf Try.prog 57) := by kernel_rfl
        simp only [hf5, List.length_map, take_map_len]
        conv => lhs; whnf
        refine bif_or2 hm ?_ ?_ <;> clear hm <;> intro hc3 hm
        · simp only [hc3, ls]
          conv => lhs; whnf
          refine bif_or2 hm ?_ ?_ <;> clear hm <;> intro hc4 hm
          · simp only [hc4, ls]
            conv => lhs; whnf
            have hq := Option.some.inj hm; clear hm; subst hq
            try simp only [ls]
            exact fq (y := some (AV.bool (decide (v0_x.f_N ≤ 9999)), []))
          · simp only [hc4, ls]
            conv => lhs; whnf
            have hq := Option.some.inj hm; clear hm; subst hq
            try simp only [ls]
            exact fq (y := some (AV.bool (false), []))
        · simp only [hc3, ls]
          conv => lhs; whnf
          have hq := Option.some.inj hm; clear hm; subst hq
          try simp only [ls]
          exact fq (y := some (AV.bool (false), []))
      · simp only [hc2, ls]
        conv => lhs; whnf
        refine bif_or2 hm ?_ ?_ <;> clear hm <;> intro hc6 hm
        · simp only [hc6, ls]
          conv => lhs; whnf
          refine bind_some2 hm ?_; clear hm; intro y7 hy7 hm
          have hk8 : call false 66 [AV.str (v0_x.f_In)] [] = some (AV.bool (y7), []) := (hc _ _ _).trans (ok_scan_Name n v0_x.f_In y7 hy7)
          try simp only [List.drop_zero, ls]
          first | simp only [hk8] | rewrite [hk8]
          try simp only [ls]
          conv => lhs; whnf
          refine bif_or2 hm ?_ ?_ <;> clear hm <;> intro hc9 hm
          · simp only [hc9, ls]
            conv => lhs; whnf
            have hf13 : flatT Try.prog 57 = some (fieldsOf Try.prog 57) := by kernel_rfl
            simp only [hf13, List.length_map, take_map_len]
            conv => lhs; whnf
            refine bif_or2 hm ?_ ?_ <;> clear hm <;> intro hc10 hm
            · simp only [hc10, ls]
              conv => lhs; whnf
              refine bind_some2 hm ?_; clear hm; intro y11 hy11 hm
              have hk12 : call false 66 [AV.str (v0_x.f_Name)] [] = some (AV.bool (y11), []) := (hc _ _ _).trans (ok_scan_Name n v0_x.f_Name y11 hy11)
              try simp only [List.drop_zero, ls]
              first | simp only [hk12] | rewrite [hk12]
              try simp only [ls]
              conv => lhs; whnf
              have hq := Option.some.inj hm; clear hm; subst hq
              try simp only [ls]
              exact fq (y := some (AV.bool (y11), []))
            · simp only [hc10, ls]
              conv => lhs; whnf
              have hq := Option.some.inj hm; clear hm; subst hq
              try simp only [ls]
              exact fq (y := some (AV.bool (false), []))
          · simp only [hc9, ls]
            conv => lhs; whnf
            have hq := Option.some.inj hm; clear hm; subst hq
            try simp only [ls]
            exact fq (y := some (AV.bool (false), []))
        · simp only [hc6, ls]
          conv => lhs; whnf
          refine bif_or2 hm ?_ ?_ <;> clear hm <;> intro hc14 hm
          · simp only [hc14, ls]
            conv => lhs; whnf
            have hf18 : flatT Try.prog 57 = some (fieldsOf Try.prog 57) := by kernel_rfl
            simp only [hf18, List.length_map, take_map_len]
            conv => lhs; whnf
            refine bif_or2 hm ?_ ?_ <;> clear hm <;> intro hc15 hm
            · simp only [hc15, ls]
              conv => lhs; whnf
              refine bind_some2 hm ?_; clear hm; intro y16 hy16 hm
              have hk17 : call false 66 [AV.str (v0_x.f_Name)] [] = some (AV.bool (y16), []) := (hc _ _ _).trans (ok_scan_Name n v0_x.f_Name y16 hy16)
              try simp only [List.drop_zero, ls]
              first | simp only [hk17] | rewrite [hk17]
              try simp only [ls]
              conv => lhs; whnf
              have hq := Option.some.inj hm; clear hm; subst hq
              try simp only [ls]
              exact fq (y := some (AV.bool (y16), []))
            · simp only [hc15, ls]
              conv => lhs; whnf
              have hq := Option.some.inj hm; clear hm; subst hq
              try simp only [ls]
              exact fq (y := some (AV.bool (false), []))
          · simp only [hc14, ls]
            conv => lhs; whnf
            refine bif_or2 hm ?_ ?_ <;> clear hm <;> intro hc19 hm
            · simp only [hc19, ls]
              conv => lhs; whnf
              have hf23 : flatT Try.prog 57 = some (fieldsOf Try.prog 57) := by kernel_rfl
              simp only [hf23, List.length_map, take_map_len]
              conv => lhs; whnf
              refine bif_or2 hm ?_ ?_ <;> clear hm <;> intro hc20 hm
              · simp only [hc20, ls]
                conv => lhs; whnf
                refine bind_some2 hm ?_; clear hm; intro y21 hy21 hm
                have hk22 : call false 66 [AV.str (v0_x.f_Name)] [] = some (AV.bool (y21), []) := (hc _ _ _).trans (ok_scan_Name n v0_x.f_Name y21 hy21)
                try simp only [List.drop_zero, ls]
                first | simp only [hk22] | rewrite [hk22]
                try simp only [ls]
                conv => lhs; whnf
                have hq := Option.some.inj hm; clear hm; subst hq
                try simp only [ls]
                exact fq (y := some (AV.bool (y21), []))
              · simp only [hc20, ls]
                conv => lhs; whnf
                have hq := Option.some.inj hm; clear hm; subst hq
                try simp only [ls]
                exact fq (y := some (AV.bool (false), []))
            · simp only [hc19, ls]
              conv => lhs; whnf
              have hf24 : flatT Try.prog 57 = some (fieldsOf Try.prog 57) := by kernel_rfl
              simp only [hf24, List.length_map, take_map_len]
              conv => lhs; whnf
              have hq := Option.some.inj hm; clear hm; subst hq
              try simp only [ls]
              exact fq (y := some (AV.bool (((v0_x.f_Op == v0_x.f_Op) && ((v0_x.f_N == 0) && ((v0_x.f_Name == ([] : List UInt8)) && ((v0_x.f_In == ([] : List UInt8)) && ((v0_x.f_At == v0_x.f_At) && true)))))), []))

set_option maxHeartbeats 4000000 in
theorem ok_expr_Right (n : Nat) : ∀ (v0_l : (List S_api_Node)) (r : Bool), m_expr_Right n v0_l = some r → callN Try.prog HH XT n 44 [AV.sl 5 (List.map c_api_Node (v0_l))] [] = some (AV.bool (r), []) := by
  cases n with
  | zero => intro v0_l r hm; exact absurd hm (by intro h; cases h)
  | succ n =>
    intro v0_l r hm
    rw [m_expr_Right] at hm
    refine callN_eq' Try.func44 (by rfl) rfl rfl (Nat.le_of_ble_eq_true rfl) ?_
    intro call hc
    conv => lhs; whnf
    refine bif_or2 hm ?_ ?_ <;> clear hm <;> intro hc1 hm
    · simp only [hc1, ls]
      conv => lhs; whnf
      have hq := Option.some.inj hm; clear hm; subst hq
      try simp only [ls]
      exact fq (y := some (AV.bool (false), []))
    · simp only [hc1, ls]
      conv => lhs; whnf
      refine bif_or2 hm ?_ ?_ <;> clear hm <;> intro hc2 hm
      · simp only [hc2, ls]
        conv => lhs; whnf
        have hq := Option.some.inj hm; clear hm; subst hq
        try simp only [ls]
        exact fq (y := some (AV.bool (false), []))
      · simp only [hc2, ls]
        conv => lhs; whnf
        refine bind_some2 hm ?_; clear hm; intro y3 hy3 hm
        have hk4 : call false 60 [AV.sl 5 (List.map c_api_Node (v0_l)), AV.int .i64 (0)] [] = some (AV.int .i64 (y3), []) := (hc _ _ _).trans (ok_expr_End n v0_l 0 y3 hy3)
        try simp only [List.drop_zero, ls]
        first | simp only [hk4] | rewrite [hk4]
        try simp only [ls]
        conv => lhs; whnf
        refine bif_or2 hm ?_ ?_ <;> clear hm <;> intro hc5 hm
        · simp only [hc5, ls]
          conv => lhs; whnf
          have hq := Option.some.inj hm; clear hm; subst hq
          try simp only [ls]
          exact fq (y := some (AV.bool (false), []))
        · simp only [hc5, ls]
          conv => lhs; whnf
          refine bind_some2 hm ?_; clear hm; intro o14 ho14 hm
          refine rounds_sim (σ := Int) (τ := Unit) (ν := Bool) 0 (fun s6 a8 => stOf 33 [(0, AV.sl 5 (List.map c_api_Node (v0_l))), (20, AV.sl 5 (List.map c_api_Node (v0_l))), (21, AV.int .i64 ((((v0_l).length : Nat) : Int))), (22, AV.int .i64 (s6))]) (fun s6 a8 => []) (fun _ a20 => stOf 33 [(0, AV.sl 5 (List.map c_api_Node (v0_l)))]) (fun _ a20 => []) (fun v => (AV.bool (v), [])) (fun k s => expr_Right_L0 n v0_l k s) (fun s => rfl) o14 ?_ n 0 (fun _ => 0) _ _ ho14 ?_ (by first | rfl | (simp only [ls, List.map_append, List.map_cons, List.map_nil, List.append_nil, List.length_set, length_copyL] <;> rfl)) (by first | rfl | (simp only [ls, List.map_append, List.map_cons, List.map_nil, List.append_nil, List.length_set, length_copyL] <;> rfl))
          · intro k7 ss a8 K9 cont10 hK11 hcont12 hm hr13
            obtain ⟨s6, rfl⟩ : ∃ x, x = ss := ⟨_, rfl⟩
            replace hm : expr_Right_L0 n v0_l (k7 + 1) s6 = some o14 := hm
            rw [expr_Right_L0] at hm
            conv => lhs; whnf
            refine bif_or2 hm ?_ ?_ <;> clear hm <;> intro hc15 hm
            · simp only [hc15, ls]
              conv => lhs; whnf
              refine bind_some2 hm ?_; clear hm; intro x16 hx16 hm
              refine bif_pos (by first | exact idx_in hx16 | exact idx_in' hx16) ?_
              simp only [idx_nth (f := c_api_Node) hx16, ls]
              conv => lhs; whnf
              refine bind_some2 hm ?_; clear hm; intro y17 hy17 hm
              have hk18 : call false 61 [AV.agg [AV.int .i64 (x16.f_Op), AV.int .i64 (x16.f_N), AV.str (x16.f_Name), AV.str (x16.f_In), AV.int .i64 (x16.f_At)]] [] = some (AV.bool (y17), []) := (hc _ _ _).trans (ok_expr_fits n x16 y17 hy17)
              try simp only [List.drop_zero, ls]
              first | simp only [hk18] | rewrite [hk18]
              try simp only [ls]
              conv => lhs; whnf
              refine bif_or2 hm ?_ ?_ <;> clear hm <;> intro hc19 hm
              · simp only [hc19, ls]
                conv => lhs; whnf
                exact cq (hcont12 (IntKind.i64.wrap (s6 + 1)) (fun _ => 0) hm)
              · simp only [hc19, ls]
                conv => lhs; whnf
                have hq := Option.some.inj hm; clear hm; subst hq
                refine (hK11 _ _).trans ?_
                refine Eq.trans ?_ (Eq.symm (show _ = some _ from hr13))
                conv => lhs; whnf
                try simp only [ls]
                exact fq (y := some (AV.bool (false), []))
            · simp only [hc15, ls]
              conv => lhs; whnf
              have hq := Option.some.inj hm; clear hm; subst hq
              exact kq (hr13 (fun _ => 0))
          · cases o14 with
            | ret v =>
              have hq := Option.some.inj hm; clear hm; subst hq
              rfl
            | out t =>
              intro a20
              dsimp only at hm
              conv => lhs; whnf
              refine bind_some2 hm ?_; clear hm; intro y21 hy21 hm
              have hk22 : call false 62 [AV.sl 5 (List.map c_api_Node (v0_l))] [] = some (AV.int .i64 (y21), []) := (hc _ _ _).trans (ok_expr_depth n v0_l y21 hy21)
              try simp only [List.drop_zero, ls]
              first | simp only [hk22] | rewrite [hk22]
              try simp only [ls]
              conv => lhs; whnf
              have hq := Option.some.inj hm; clear hm; subst hq
              try simp only [ls]
              exact fq (y := some (AV.bool (decide (y21 ≤ 30)), []))
end Go.Proofs.Ytmnnkeejgkhgpaa
end

section
namespace Go.Proofs.Ytmnnkeejgkhgpaa
set_option linter.unusedVariables false
set_option linter.unusedSimpArgs false
set_option maxRecDepth 100000

set_option maxHeartbeats 4000000 in
theorem ok_code_lies (n : Nat) : ∀ (v0_l : (List OpS)) (r : (Int × Int)), m_code_lies n v0_l = some r → callN Try.prog HH XT n 41 [AV.sl 3 (List.map encOp (v0_l))] [] = some (AV.tup [AV.int .i64 ((r).1), AV.int .i64 ((r).2)], []) := by
  cases n with
  | zero => intro v0_l r hm; exact absurd hm (by intro h; cases h)
  | succ n =>
    intro v0_l r hm
    rw [m_code_lies] at hm
    refine callN_eq' Try.func41 (by rfl) rfl rfl (Nat.le_of_ble_eq_true rfl) ?_
    intro call hc
    conv => lhs; whnf
    refine bind_some2 hm ?_; clear hm; intro o11 ho11 hm
    refine rounds_sim (σ := (Int × Int × Int)) (τ := (Int × Int)) (ν := (Int × Int)) 0 (fun (s1, s2, s3) a5 => stOf 54 [(4, AV.int .i64 (s1)), (5, AV.int .i64 (s2)), (11, AV.sl 3 (List.map encOp (v0_l))), (12, AV.int .i64 ((((v0_l).length : Nat) : Int))), (13, AV.int .i64 (s3))]) (fun (s1, s2, s3) a5 => []) (fun (x105, x106) a104 => stOf 54 [(4, AV.int .i64 (x105)), (5, AV.int .i64 (x106))]) (fun (x105, x106) a104 => []) (fun v => (AV.tup [AV.int .i64 ((v).1), AV.int .i64 ((v).2)], [])) (fun k s => code_lies_L0 n v0_l k ((s).1) ((s).2.1) ((s).2.2)) (fun s => rfl) o11 ?_ n (0, 0, 0) (fun _ => 0) _ _ ho11 ?_ (by first | rfl | (simp only [ls, List.map_append, List.map_cons, List.map_nil, List.append_nil, List.length_set, length_copyL] <;> rfl)) (by first | rfl | (simp only [ls, List.map_append, List.map_cons, List.map_nil, List.append_nil, List.length_set, length_copyL] <;> rfl))
    · intro k4 ss a5 K6 cont7 hK8 hcont9 hm hr10
      obtain ⟨s1, s2, s3⟩ := ss
      replace hm : code_lies_L0 n v0_l (k4 + 1) s1 s2 s3 = some o11 := hm
      rw [code_lies_L0] at hm
      conv => lhs; whnf
      refine bif_or2 hm ?_ ?_ <;> clear hm <;> intro hc12 hm
      · simp only [hc12, ls]
        conv => lhs; whnf
        refine bind_some2 hm ?_; clear hm; intro x13 hx13 hm
        refine bif_pos (by first | exact idx_in hx13 | exact idx_in' hx13) ?_
        simp only [idx_nth (f := encOp) hx13, ls]
        conv => lhs; whnf
        refine bind_some2 hm ?_; clear hm; intro y14 hy14 hm
        cases y14 with
        | c0 y16 =>
          dsimp only at hm
          have hk15 : call false 37 [AV.int .i64 (x13.op)] [] = some (AV.tup [AV.agg [AV.int .i64 ((y16).1), AV.nilf], AV.bool ((y16).2)], []) := (hc _ _ _).trans (ok_code_of n x13.op (.c0 y16) hy14)
          try simp only [List.drop_zero, ls]
          first | simp only [hk15] | rewrite [hk15]
          try simp only [ls]
          conv => lhs; whnf
          refine bif_or2 hm ?_ ?_ <;> clear hm <;> intro hc27 hm
          · simp only [hc27, ls]
            conv => lhs; whnf
            refine bif_or2 hm ?_ ?_ <;> clear hm <;> intro hc28 hm
            · simp only [hc28, ls]
              conv => lhs; whnf
              refine bif_or2 hm ?_ ?_ <;> clear hm <;> intro hc29 hm
              · simp only [hc29, ls]
                conv => lhs; whnf
                have hq := Option.some.inj hm; clear hm; subst hq
                refine (hK8 _ _).trans ?_
                refine Eq.trans ?_ (Eq.symm (show _ = some _ from hr10))
                conv => lhs; whnf
                try simp only [ls]
                exact fq (y := some (AV.tup [AV.int .i64 ((-1)), AV.int .i64 ((-1))], []))
              · simp only [hc29, ls]
                conv => lhs; whnf
                exact cq (hcont9 (IntKind.i64.wrap (s1 + (IntKind.i64.wrap (1 - ((y16).1)))), (if s2 < (IntKind.i64.wrap (s1 + (IntKind.i64.wrap (1 - ((y16).1))))) then (IntKind.i64.wrap (s1 + (IntKind.i64.wrap (1 - ((y16).1))))) else s2), IntKind.i64.wrap (s3 + 1)) (fun _ => 0) hm)
            · simp only [hc28, ls]
              conv => lhs; whnf
              refine bif_or2 hm ?_ ?_ <;> clear hm <;> intro hc30 hm
              · simp only [hc30, ls]
                conv => lhs; whnf
                refine bif_or2 hm ?_ ?_ <;> clear hm <;> intro hc31 hm
                · simp only [hc31, ls]
                  conv => lhs; whnf
                  have hq := Option.some.inj hm; clear hm; subst hq
                  refine (hK8 _ _).trans ?_
                  refine Eq.trans ?_ (Eq.symm (show _ = some _ from hr10))
                  conv => lhs; whnf
                  try simp only [ls]
                  exact fq (y := some (AV.tup [AV.int .i64 ((-1)), AV.int .i64 ((-1))], []))
                · simp only [hc31, ls]
                  conv => lhs; whnf
                  exact cq (hcont9 (IntKind.i64.wrap (s1 + (IntKind.i64.wrap (1 - ((y16).1)))), (if s2 < (IntKind.i64.wrap (s1 + (IntKind.i64.wrap (1 - ((y16).1))))) then (IntKind.i64.wrap (s1 + (IntKind.i64.wrap (1 - ((y16).1))))) else s2), IntKind.i64.wrap (s3 + 1)) (fun _ => 0) hm)
              · simp only [hc30, ls]
                conv => lhs; whnf
                have hq := Option.some.inj hm; clear hm; subst hq
                refine (hK8 _ _).trans ?_
                refine Eq.trans ?_ (Eq.symm (show _ = some _ from hr10))
                conv => lhs; whnf
                try simp only [ls]
                exact fq (y := some (AV.tup [AV.int .i64 ((-1)), AV.int .i64 ((-1))], []))
          · simp only [hc27, ls]
            conv => lhs; whnf
            refine bif_or2 hm ?_ ?_ <;> clear hm <;> intro hc32 hm
            · simp only [hc32, ls]
              conv => lhs; whnf
              refine bif_or2 hm ?_ ?_ <;> clear hm <;> intro hc33 hm
              · simp only [hc33, ls]
                conv => lhs; whnf
                have hq := Option.some.inj hm; clear hm; subst hq
                refine (hK8 _ _).trans ?_
                refine Eq.trans ?_ (Eq.symm (show _ = some _ from hr10))
                conv => lhs; whnf
                try simp only [ls]
                exact fq (y := some (AV.tup [AV.int .i64 ((-1)), AV.int .i64 ((-1))], []))
              · simp only [hc33, ls]
                conv => lhs; whnf
                exact cq (hcont9 (IntKind.i64.wrap (s1 + (IntKind.i64.wrap (1 - ((y16).1)))), (if s2 < (IntKind.i64.wrap (s1 + (IntKind.i64.wrap (1 - ((y16).1))))) then (IntKind.i64.wrap (s1 + (IntKind.i64.wrap (1 - ((y16).1))))) else s2), IntKind.i64.wrap (s3 + 1)) (fun _ => 0) hm)
            · simp only [hc32, ls]
              conv => lhs; whnf
              have hq := Option.some.inj hm; clear hm; subst hq
              refine (hK8 _ _).trans ?_
              refine Eq.trans ?_ (Eq.symm (show _ = some _ from hr10))
              conv => lhs; whnf
              try simp only [ls]
              exact fq (y := some (AV.tup [AV.int .i64 ((-1)), AV.int .i64 ((-1))], []))
        | c1 y17 =>
          dsimp only at hm
          have hk15 : call false 37 [AV.int .i64 (x13.op)] [] = some (AV.tup [AV.agg [AV.int .i64 ((y17).1), AV.func 59 [] []], AV.bool ((y17).2)], []) := (hc _ _ _).trans (ok_code_of n x13.op (.c1 y17) hy14)
          try simp only [List.drop_zero, ls]
          first | simp only [hk15] | rewrite [hk15]
          try simp only [ls]
          conv => lhs; whnf
          refine bif_or2 hm ?_ ?_ <;> clear hm <;> intro hc34 hm
          · simp only [hc34, ls]
            conv => lhs; whnf
            refine bif_or2 hm ?_ ?_ <;> clear hm <;> intro hc35 hm
            · simp only [hc35, ls]
              conv => lhs; whnf
              refine bif_or2 hm ?_ ?_ <;> clear hm <;> intro hc36 hm
              · simp only [hc36, ls]
                conv => lhs; whnf
                have hq := Option.some.inj hm; clear hm; subst hq
                refine (hK8 _ _).trans ?_
                refine Eq.trans ?_ (Eq.symm (show _ = some _ from hr10))
                conv => lhs; whnf
                try simp only [ls]
                exact fq (y := some (AV.tup [AV.int .i64 ((-1)), AV.int .i64 ((-1))], []))
              · simp only [hc36, ls]
                conv => lhs; whnf
                exact cq (hcont9 (IntKind.i64.wrap (s1 + (IntKind.i64.wrap (1 - ((y17).1)))), (if s2 < (IntKind.i64.wrap (s1 + (IntKind.i64.wrap (1 - ((y17).1))))) then (IntKind.i64.wrap (s1 + (IntKind.i64.wrap (1 - ((y17).1))))) else s2), IntKind.i64.wrap (s3 + 1)) (fun _ => 0) hm)
            · simp only [hc35, ls]
              conv => lhs; whnf
              refine bif_or2 hm ?_ ?_ <;> clear hm <;> intro hc37 hm
              · simp only [hc37, ls]
                conv => lhs; whnf
                refine bif_or2 hm ?_ ?_ <;> clear hm <;> intro hc38 hm
                · simp only [hc38, ls]
                  conv => lhs; whnf
                  have hq := Option.some.inj hm; clear hm; subst hq
                  refine (hK8 _ _).trans ?_
                  refine Eq.trans ?_ (Eq.symm (show _ = some _ from hr10))
                  conv => lhs; whnf
                  try simp only [ls]
                  exact fq (y := some (AV.tup [AV.int .i64 ((-1)), AV.int .i64 ((-1))], []))
                · simp only [hc38, ls]
                  conv => lhs; whnf
                  exact cq (hcont9 (IntKind.i64.wrap (s1 + (IntKind.i64.wrap (1 - ((y17).1)))), (if s2 < (IntKind.i64.wrap (s1 + (IntKind.i64.wrap (1 - ((y17).1))))) then (IntKind.i64.wrap (s1 + (IntKind.i64.wrap (1 - ((y17).1))))) else s2), IntKind.i64.wrap (s3 + 1)) (fun _ => 0) hm)
              · simp only [hc37, ls]
                conv => lhs; whnf
                have hq := Option.some.inj hm; clear hm; subst hq
                refine (hK8 _ _).trans ?_
                refine Eq.trans ?_ (Eq.symm (show _ = some _ from hr10))
                conv => lhs; whnf
                try simp only [ls]
                exact fq (y := some (AV.tup [AV.int .i64 ((-1)), AV.int .i64 ((-1))], []))
          · simp only [hc34, ls]
            conv => lhs; whnf
            refine bif_or2 hm ?_ ?_ <;> clear hm <;> intro hc39 hm
            · simp only [hc39, ls]
              conv => lhs; whnf
              refine bif_or2 hm ?_ ?_ <;> clear hm <;> intro hc40 hm
              · simp only [hc40, ls]
                conv => lhs; whnf
                have hq := Option.some.inj hm; clear hm; subst hq
                refine (hK8 _ _).trans ?_
                refine Eq.trans ?_ (Eq.symm (show _ = some _ from hr10))
                conv => lhs; whnf
                try simp only [ls]
                exact fq (y := some (AV.tup [AV.int .i64 ((-1)), AV.int .i64 ((-1))], []))
              · simp only [hc40, ls]
                conv => lhs; whnf
                exact cq (hcont9 (IntKind.i64.wrap (s1 + (IntKind.i64.wrap (1 - ((y17).1)))), (if s2 < (IntKind.i64.wrap (s1 + (IntKind.i64.wrap (1 - ((y17).1))))) then (IntKind.i64.wrap (s1 + (IntKind.i64.wrap (1 - ((y17).1))))) else s2), IntKind.i64.wrap (s3 + 1)) (fun _ => 0) hm)
            · simp only [hc39, ls]
              conv => lhs; whnf
              have hq := Option.some.inj hm; clear hm; subst hq
              refine (hK8 _ _).trans ?_
              refine Eq.trans ?_ (Eq.symm (show _ = some _ from hr10))
              conv => lhs; whnf
              try simp only [ls]
              exact fq (y := some (AV.tup [AV.int .i64 ((-1)), AV.int .i64 ((-1))], []))
        | c2 y18 =>
          dsimp only at hm
          have hk15 : call false 37 [AV.int .i64 (x13.op)] [] = some (AV.tup [AV.agg [AV.int .i64 ((y18).1), AV.func 58 [] []], AV.bool ((y18).2)], []) := (hc _ _ _).trans (ok_code_of n x13.op (.c2 y18) hy14)
          try simp only [List.drop_zero, ls]
          first | simp only [hk15] | rewrite [hk15]
          try simp only [ls]
          conv => lhs; whnf
          refine bif_or2 hm ?_ ?_ <;> clear hm <;> intro hc41 hm
          · simp only [hc41, ls]
            conv => lhs; whnf
            refine bif_or2 hm ?_ ?_ <;> clear hm <;> intro hc42 hm
            · simp only [hc42, ls]
              conv => lhs; whnf
              refine bif_or2 hm ?_ ?_ <;> clear hm <;> intro hc43 hm
              · simp only [hc43, ls]
                conv => lhs; whnf
                have hq := Option.some.inj hm; clear hm; subst hq
                refine (hK8 _ _).trans ?_
                refine Eq.trans ?_ (Eq.symm (show _ = some _ from hr10))
                conv => lhs; whnf
                try simp only [ls]
                exact fq (y := some (AV.tup [AV.int .i64 ((-1)), AV.int .i64 ((-1))], []))
              · simp only [hc43, ls]
                conv => lhs; whnf
                exact cq (hcont9 (IntKind.i64.wrap (s1 + (IntKind.i64.wrap (1 - ((y18).1)))), (if s2 < (IntKind.i64.wrap (s1 + (IntKind.i64.wrap (1 - ((y18).1))))) then (IntKind.i64.wrap (s1 + (IntKind.i64.wrap (1 - ((y18).1))))) else s2), IntKind.i64.wrap (s3 + 1)) (fun _ => 0) hm)
            · simp only [hc42, ls]
              conv => lhs; whnf
              refine bif_or2 hm ?_ ?_ <;> clear hm <;> intro hc44 hm
              · simp only [hc44, ls]
                conv => lhs; whnf
                refine bif_or2 hm ?_ ?_ <;> clear hm <;> intro hc45 hm
                · simp only [hc45, ls]
                  conv => lhs; whnf
                  have hq := Option.some.inj hm; clear hm; subst hq
                  refine (hK8 _ _).trans ?_
                  refine Eq.trans ?_ (Eq.symm (show _ = some _ from hr10))
                  conv => lhs; whnf
                  try simp only [ls]
                  exact fq (y := some (AV.tup [AV.int .i64 ((-1)), AV.int .i64 ((-1))], []))
                · simp only [hc45, ls]
                  conv => lhs; whnf
                  exact cq (hcont9 (IntKind.i64.wrap (s1 + (IntKind.i64.wrap (1 - ((y18).1)))), (if s2 < (IntKind.i64.wrap (s1 + (IntKind.i64.wrap (1 - ((y18).1))))) then (IntKind.i64.wrap (s1 + (IntKind.i64.wrap (1 - ((y18).1))))) else s2), IntKind.i64.wrap (s3 + 1)) (fun _ => 0) hm)
              · simp only [hc44, ls]
                conv => lhs; whnf
                have hq := Option.some.inj hm; clear hm; subst hq
                refine (hK8 _ _).trans ?_
                refine Eq.trans ?_ (Eq.symm (show _ = some _ from hr10))
                conv => lhs; whnf
                try simp only [ls]
                exact fq (y := some (AV.tup [AV.int .i64 ((-1)), AV.int .i64 ((-1))], []))
          · simp only [hc41, ls]
            conv => lhs; whnf
            refine bif_or2 hm ?_ ?_ <;> clear hm <;> intro hc46 hm
            · simp only [hc46, ls]
              conv => lhs; whnf
              refine bif_or2 hm ?_ ?_ <;> clear hm <;> intro hc47 hm
              · simp only [hc47, ls]
                conv => lhs; whnf
                have hq := Option.some.inj hm; clear hm; subst hq
                refine (hK8 _ _).trans ?_
                refine Eq.trans ?_ (Eq.symm (show _ = some _ from hr10))
                conv => lhs; whnf
                try simp only [ls]
                exact fq (y := some (AV.tup [AV.int .i64 ((-1)), AV.int .i64 ((-1))], []))
              · simp only [hc47, ls]
                conv => lhs; whnf
                exact cq (hcont9 (IntKind.i64.wrap (s1 + (IntKind.i64.wrap (1 - ((y18).1)))), (if s2 < (IntKind.i64.wrap (s1 + (IntKind.i64.wrap (1 - ((y18).1))))) then (IntKind.i64.wrap (s1 + (IntKind.i64.wrap (1 - ((y18).1))))) else s2), IntKind.i64.wrap (s3 + 1)) (fun _ => 0) hm)
            · simp only [hc46, ls]
              conv => lhs; whnf
              have hq := Option.some.inj hm; clear hm; subst hq
              refine (hK8 _ _).trans ?_
              refine Eq.trans ?_ (Eq.symm (show _ = some _ from hr10))
              conv => lhs; whnf
              try simp only [ls]
              exact fq (y := some (AV.tup [AV.int .i64 ((-1)), AV.int .i64 ((-1))], []))
        | c3 y19 =>
          dsimp only at hm
          have hk15 : call false 37 [AV.int .i64 (x13.op)] [] = some (AV.tup [AV.agg [AV.int .i64 ((y19).1), AV.func 57 [] []], AV.bool ((y19).2)], []) := (hc _ _ _).trans (ok_code_of n x13.op (.c3 y19) hy14)
          try simp only [List.drop_zero, ls]
          first | simp only [hk15] | rewrite [hk15]
          try simp only [ls]
          conv => lhs; whnf
          refine bif_or2 hm ?_ ?_ <;> clear hm <;> intro hc48 hm
          · simp only [hc48, ls]
            conv => lhs; whnf
            refine bif_or2 hm ?_ ?_ <;> clear hm <;> intro hc49 hm
            · simp only [hc49, ls]
              conv => lhs; whnf
              refine bif_or2 hm ?_ ?_ <;> clear hm <;> intro hc50 hm
              · simp only [hc50, ls]
                conv => lhs; whnf
                have hq := Option.some.inj hm; clear hm; subst hq
                refine (hK8 _ _).trans ?_
                refine Eq.trans ?_ (Eq.symm (show _ = some _ from hr10))
                conv => lhs; whnf
                try simp only [ls]
                exact fq (y := some (AV.tup [AV.int .i64 ((-1)), AV.int .i64 ((-1))], []))
              · simp only [hc50, ls]
                conv => lhs; whnf
                exact cq (hcont9 (IntKind.i64.wrap (s1 + (IntKind.i64.wrap (1 - ((y19).1)))), (if s2 < (IntKind.i64.wrap (s1 + (IntKind.i64.wrap (1 - ((y19).1))))) then (IntKind.i64.wrap (s1 + (IntKind.i64.wrap (1 - ((y19).1))))) else s2), IntKind.i64.wrap (s3 + 1)) (fun _ => 0) hm)
            · simp only [hc49, ls]
              conv => lhs; whnf
              refine bif_or2 hm ?_ ?_ <;> clear hm <;> intro hc51 hm
              · simp only [hc51, ls]
                conv => lhs; whnf
                refine bif_or2 hm ?_ ?_ <;> clear hm <;> intro hc52 hm
                · simp only [hc52, ls]
                  conv => lhs; whnf
                  have hq := Option.some.inj hm; clear hm; subst hq
                  refine (hK8 _ _).trans ?_
                  refine Eq.trans ?_ (Eq.symm (show _ = some _ from hr10))
                  conv => lhs; whnf
                  try simp only [ls]
                  exact fq (y := some (AV.tup [AV.int .i64 ((-1)), AV.int .i64 ((-1))], []))
                · simp only [hc52, ls]
                  conv => lhs; whnf
                  exact cq (hcont9 (IntKind.i64.wrap (s1 + (IntKind.i64.wrap (1 - ((y19).1)))), (if s2 < (IntKind.i64.wrap (s1 + (IntKind.i64.wrap (1 - ((y19).1))))) then (IntKind.i64.wrap (s1 + (IntKind.i64.wrap (1 - ((y19).1))))) else s2), IntKind.i64.wrap (s3 + 1)) (fun _ => 0) hm)
              · simp only [hc51, ls]
                conv => lhs; whnf
                have hq := Option.some.inj hm; clear hm; subst hq
                refine (hK8 _ _).trans ?_
                refine Eq.trans ?_ (Eq.symm (show _ = some _ from hr10))
                conv => lhs; whnf
                try simp only [ls]
                exact fq (y := some (AV.tup [AV.int .i64 ((-1)), AV.int .i64 ((-1))], []))
          · simp only [hc48, ls]
            conv => lhs; whnf
            refine bif_or2 hm ?_ ?_ <;> clear hm <;> intro hc53 hm
            · simp only [hc53, ls]
              conv => lhs; whnf
              refine bif_or2 hm ?_ ?_ <;> clear hm <;> intro hc54 hm
              · simp only [hc54, ls]
                conv => lhs; whnf
                have hq := Option.some.inj hm; clear hm; subst hq
                refine (hK8 _ _).trans ?_
                refine Eq.trans ?_ (Eq.symm (show _ = some _ from hr10))
                conv => lhs; whnf
                try simp only [ls]
                exact fq (y := some (AV.tup [AV.int .i64 ((-1)), AV.int .i64 ((-1))], []))
              · simp only [hc54, ls]
                conv => lhs; whnf
                exact cq (hcont9 (IntKind.i64.wrap (s1 + (IntKind.i64.wrap (1 - ((y19).1)))), (if s2 < (IntKind.i64.wrap (s1 + (IntKind.i64.wrap (1 - ((y19).1))))) then (IntKind.i64.wrap (s1 + (IntKind.i64.wrap (1 - ((y19).1))))) else s2), IntKind.i64.wrap (s3 + 1)) (fun _ => 0) hm)
            · simp only [hc53, ls]
              conv => lhs; whnf
              have hq := Option.some.inj hm; clear hm; subst hq
              refine (hK8 _ _).trans ?_
              refine Eq.trans ?_ (Eq.symm (show _ = some _ from hr10))
              conv => lhs; whnf
              try simp only [ls]
              exact fq (y := some (AV.tup [AV.int .i64 ((-1)), AV.int .i64 ((-1))], []))
        | c4 y20 =>
          dsimp only at hm
          have hk15 : call false 37 [AV.int .i64 (x13.op)] [] = some (AV.tup [AV.agg [AV.int .i64 ((y20).1), AV.func 56 [] []], AV.bool ((y20).2)], []) := (hc _ _ _).trans (ok_code_of n x13.op (.c4 y20) hy14)
          try simp only [List.drop_zero, ls]
          first | simp only [hk15] | rewrite [hk15]
          try simp only [ls]
          conv => lhs; whnf
          refine bif_or2 hm ?_ ?_ <;> clear hm <;> intro hc55 hm
          · simp only [hc55, ls]
            conv => lhs; whnf
            refine bif_or2 hm ?_ ?_ <;> clear hm <;> intro hc56 hm
            · simp only [hc56, ls]
              conv => lhs; whnf
              refine bif_or2 hm ?_ ?_ <;> clear hm <;> intro hc57 hm
              · simp only [hc57, ls]
                conv => lhs; whnf
                have hq := Option.some.inj hm; clear hm; subst hq
                refine (hK8 _ _).trans ?_
                refine Eq.trans ?_ (Eq.symm (show _ = some _ from hr10))
                conv => lhs; whnf
                try simp only [ls]
                exact fq (y := some (AV.tup [AV.int .i64 ((-1)), AV.int .i64 ((-1))], []))
              · simp only [hc57, ls]
                conv => lhs; whnf
                exact cq (hcont9 (IntKind.i64.wrap (s1 + (IntKind.i64.wrap (1 - ((y20).1)))), (if s2 < (IntKind.i64.wrap (s1 + (IntKind.i64.wrap (1 - ((y20).1))))) then (IntKind.i64.wrap (s1 + (IntKind.i64.wrap (1 - ((y20).1))))) else s2), IntKind.i64.wrap (s3 + 1)) (fun _ => 0) hm)
            · simp only [hc56, ls]
              conv => lhs; whnf
              refine bif_or2 hm ?_ ?_ <;> clear hm <;> intro hc58 hm
              · simp only [hc58, ls]
                conv => lhs; whnf
                refine bif_or2 hm ?_ ?_ <;> clear hm <;> intro hc59 hm
                · simp only [hc59, ls]
                  conv => lhs; whnf
                  have hq := Option.some.inj hm; clear hm; subst hq
                  refine (hK8 _ _).trans ?_
                  refine Eq.trans ?_ (Eq.symm (show _ = some _ from hr10))
                  conv => lhs; whnf
                  try simp only [ls]
                  exact fq (y := some (AV.tup [AV.int .i64 ((-1)), AV.int .i64 ((-1))], []))
                · simp only [hc59, ls]
                  conv => lhs; whnf
                  exact cq (hcont9 (IntKind.i64.wrap (s1 + (IntKind.i64.wrap (1 - ((y20).1)))), (if s2 < (IntKind.i64.wrap (s1 + (IntKind.i64.wrap (1 - ((y20).1))))) then (IntKind.i64.wrap (s1 + (IntKind.i64.wrap (1 - ((y20).1))))) else s2), IntKind.i64.wrap (s3 + 1)) (fun _ => 0) hm)
              · simp only [hc58, ls]
                conv => lhs; whnf
                have hq := Option.some.inj hm; clear hm; subst hq
                refine (hK8 _ _).trans ?_
                refine Eq.trans ?_ (Eq.symm (show _ = some _ from hr10))
                conv => lhs; whnf
                try simp only [ls]
                exact fq (y := some (AV.tup [AV.int .i64 ((-1)), AV.int .i64 ((-1))], []))
          · simp only [hc55, ls]
            conv => lhs; whnf
            refine bif_or2 hm ?_ ?_ <;> clear hm <;> intro hc60 hm
            · simp only [hc60, ls]
              conv => lhs; whnf
              refine bif_or2 hm ?_ ?_ <;> clear hm <;> intro hc61 hm
              · simp only [hc61, ls]
                conv => lhs; whnf
                have hq := Option.some.inj hm; clear hm; subst hq
                refine (hK8 _ _).trans ?_
                refine Eq.trans ?_ (Eq.symm (show _ = some _ from hr10))
                conv => lhs; whnf
                try simp only [ls]
                exact fq (y := some (AV.tup [AV.int .i64 ((-1)), AV.int .i64 ((-1))], []))
              · simp only [hc61, ls]
                conv => lhs; whnf
                exact cq (hcont9 (IntKind.i64.wrap (s1 + (IntKind.i64.wrap (1 - ((y20).1)))), (if s2 < (IntKind.i64.wrap (s1 + (IntKind.i64.wrap (1 - ((y20).1))))) then (IntKind.i64.wrap (s1 + (IntKind.i64.wrap (1 - ((y20).1))))) else s2), IntKind.i64.wrap (s3 + 1)) (fun _ => 0) hm)
            · simp only [hc60, ls]
              conv => lhs; whnf
              have hq := Option.some.inj hm; clear hm; subst hq
              refine (hK8 _ _).trans ?_
              refine Eq.trans ?_ (Eq.symm (show _ = some _ from hr10))
              conv => lhs; whnf
              try simp only [ls]
              exact fq (y := some (AV.tup [AV.int .i64 ((-1)), AV.int .i64 ((-1))], []))
        | c5 y21 =>
          dsimp only at hm
          have hk15 : call false 37 [AV.int .i64 (x13.op)] [] = some (AV.tup [AV.agg [AV.int .i64 ((y21).1), AV.func 55 [] []], AV.bool ((y21).2)], []) := (hc _ _ _).trans (ok_code_of n x13.op (.c5 y21) hy14)
          try simp only [List.drop_zero, ls]
          first | simp only [hk15] | rewrite [hk15]
          try simp only [ls]
          conv => lhs; whnf
          refine bif_or2 hm ?_ ?_ <;> clear hm <;> intro hc62 hm
          · simp only [hc62, ls]
            conv => lhs; whnf
            refine bif_or2 hm ?_ ?_ <;> clear hm <;> intro hc63 hm
            · simp only [hc63, ls]
              conv => lhs; whnf
              refine bif_or2 hm ?_ ?_ <;> clear hm <;> intro hc64 hm
              · simp only [hc64, ls]
                conv => lhs; whnf
                have hq := Option.some.inj hm; clear hm; subst hq
                refine (hK8 _ _).trans ?_
                refine Eq.trans ?_ (Eq.symm (show _ = some _ from hr10))
                conv => lhs; whnf
                try simp only [ls]
                exact fq (y := some (AV.tup [AV.int .i64 ((-1)), AV.int .i64 ((-1))], []))
              · simp only [hc64, ls]
                conv => lhs; whnf
                exact cq (hcont9 (IntKind.i64.wrap (s1 + (IntKind.i64.wrap (1 - ((y21).1)))), (if s2 < (IntKind.i64.wrap (s1 + (IntKind.i64.wrap (1 - ((y21).1))))) then (IntKind.i64.wrap (s1 + (IntKind.i64.wrap (1 - ((y21).1))))) else s2), IntKind.i64.wrap (s3 + 1)) (fun _ => 0) hm)
            · simp only [hc63, ls]
              conv => lhs; whnf
              refine bif_or2 hm ?_ ?_ <;> clear hm <;> intro hc65 hm
              · simp only [hc65, ls]
                conv => lhs; whnf
                refine bif_or2 hm ?_ ?_ <;> clear hm <;> intro hc66 hm
                · simp only [hc66, ls]
                  conv => lhs; whnf
                  have hq := Option.some.inj hm; clear hm; subst hq
                  refine (hK8 _ _).trans ?_
                  refine Eq.trans ?_ (Eq.symm (show _ = some _ from hr10))
                  conv => lhs; whnf
                  try simp only [ls]
                  exact fq (y := some (AV.tup [AV.int .i64 ((-1)), AV.int .i64 ((-1))], []))
                · simp only [hc66, ls]
                  conv => lhs; whnf
                  exact cq (hcont9 (IntKind.i64.wrap (s1 + (IntKind.i64.wrap (1 - ((y21).1)))), (if s2 < (IntKind.i64.wrap (s1 + (IntKind.i64.wrap (1 - ((y21).1))))) then (IntKind.i64.wrap (s1 + (IntKind.i64.wrap (1 - ((y21).1))))) else s2), IntKind.i64.wrap (s3 + 1)) (fun _ => 0) hm)
              · simp only [hc65, ls]
                conv => lhs; whnf
                have hq := Option.some.inj hm; clear hm; subst hq
                refine (hK8 _ _).trans ?_
                refine Eq.trans ?_ (Eq.symm (show _ = some _ from hr10))
                conv => lhs; whnf
                try simp only [ls]
                exact fq (y := some (AV.tup [AV.int .i64 ((-1)), AV.int .i64 ((-1))], []))
          · simp only [hc62, ls]
            conv => lhs; whnf
            refine bif_or2 hm ?_ ?_ <;> clear hm <;> intro hc67 hm
            · simp only [hc67, ls]
              conv => lhs; whnf
              refine bif_or2 hm ?_ ?_ <;> clear hm <;> intro hc68 hm
              · simp only [hc68, ls]
                conv => lhs; whnf
                have hq := Option.some.inj hm; clear hm; subst hq
                refine (hK8 _ _).trans ?_
                refine Eq.trans ?_ (Eq.symm (show _ = some _ from hr10))
                conv => lhs; whnf
                try simp only [ls]
                exact fq (y := some (AV.tup [AV.int .i64 ((-1)), AV.int .i64 ((-1))], []))
              · simp only [hc68, ls]
                conv => lhs; whnf
                exact cq (hcont9 (IntKind.i64.wrap (s1 + (IntKind.i64.wrap (1 - ((y21).1)))), (if s2 < (IntKind.i64.wrap (s1 + (IntKind.i64.wrap (1 - ((y21).1))))) then (IntKind.i64.wrap (s1 + (IntKind.i64.wrap (1 - ((y21).1))))) else s2), IntKind.i64.wrap (s3 + 1)) (fun _ => 0) hm)
            · simp only [hc67, ls]
              conv => lhs; whnf
              have hq := Option.some.inj hm; clear hm; subst hq
              refine (hK8 _ _).trans ?_
              refine Eq.trans ?_ (Eq.symm (show _ = some _ from hr10))
              conv => lhs; whnf
              try simp only [ls]
              exact fq (y := some (AV.tup [AV.int .i64 ((-1)), AV.int .i64 ((-1))], []))
        | c6 y22 =>
          dsimp only at hm
          have hk15 : call false 37 [AV.int .i64 (x13.op)] [] = some (AV.tup [AV.agg [AV.int .i64 ((y22).1), AV.func 54 [] []], AV.bool ((y22).2)], []) := (hc _ _ _).trans (ok_code_of n x13.op (.c6 y22) hy14)
          try simp only [List.drop_zero, ls]
          first | simp only [hk15] | rewrite [hk15]
          try simp only [ls]
          conv => lhs; whnf
          refine bif_or2 hm ?_ ?_ <;> clear hm <;> intro hc69 hm
          · simp only [hc69, ls]
            conv => lhs; whnf
            refine bif_or2 hm ?_ ?_ <;> clear hm <;> intro hc70 hm
            · simp only [hc70, ls]
              conv => lhs; whnf
              refine bif_or2 hm ?_ ?_ <;> clear hm <;> intro hc71 hm
              · simp only [hc71, ls]
                conv => lhs; whnf
                have hq := Option.some.inj hm; clear hm; subst hq
                refine (hK8 _ _).trans ?_
                refine Eq.trans ?_ (Eq.symm (show _ = some _ from hr10))
                conv => lhs; whnf
                try simp only [ls]
                exact fq (y := some (AV.tup [AV.int .i64 ((-1)), AV.int .i64 ((-1))], []))
              · simp only [hc71, ls]
                conv => lhs; whnf
                exact cq (hcont9 (IntKind.i64.wrap (s1 + (IntKind.i64.wrap (1 - ((y22).1)))), (if s2 < (IntKind.i64.wrap (s1 + (IntKind.i64.wrap (1 - ((y22).1))))) then (IntKind.i64.wrap (s1 + (IntKind.i64.wrap (1 - ((y22).1))))) else s2), IntKind.i64.wrap (s3 + 1)) (fun _ => 0) hm)
            · simp only [hc70, ls]
              conv => lhs; whnf
              refine bif_or2 hm ?_ ?_ <;> clear hm <;> intro hc72 hm
              · simp only [hc72, ls]
                conv => lhs; whnf
                refine bif_or2 hm ?_ ?_ <;> clear hm <;> intro hc73 hm
                · simp only [hc73, ls]
                  conv => lhs; whnf
                  have hq := Option.some.inj hm; clear hm; subst hq
                  refine (hK8 _ _).trans ?_
                  refine Eq.trans ?_ (Eq.symm (show _ = some _ from hr10))
                  conv => lhs; whnf
                  try simp only [ls]
                  exact fq (y := some (AV.tup [AV.int .i64 ((-1)), AV.int .i64 ((-1))], []))
                · simp only [hc73, ls]
                  conv => lhs; whnf
                  exact cq (hcont9 (IntKind.i64.wrap (s1 + (IntKind.i64.wrap (1 - ((y22).1)))), (if s2 < (IntKind.i64.wrap (s1 + (IntKind.i64.wrap (1 - ((y22).1))))) then (IntKind.i64.wrap (s1 + (IntKind.i64.wrap (1 - ((y22).1))))) else s2), IntKind.i64.wrap (s3 + 1)) (fun _ => 0) hm)
              · simp only [hc72, ls]
                conv => lhs; whnf
                have hq := Option.some.inj hm; clear hm; subst hq
                refine (hK8 _ _).trans ?_
                refine Eq.trans ?_ (Eq.symm (show _ = some _ from hr10))
                conv => lhs; whnf
                try simp only [ls]
                exact fq (y := some (AV.tup [AV.int .i64 ((-1)), AV.int .i64 ((-1))], []))
          · simp only [hc69, ls]
            conv => lhs; whnf
            refine bif_or2 hm ?_ ?_ <;> clear hm <;> intro hc74 hm
            · simp only [hc74, ls]
              conv => lhs; whnf
              refine bif_or2 hm ?_ ?_ <;> clear hm <;> intro hc75 hm
              · simp only [hc75, ls]
                conv => lhs; whnf
                have hq := Option.some.inj hm; clear hm; subst hq
                refine (hK8 _ _).trans ?_
                refine Eq.trans ?_ (Eq.symm (show _ = some _ from hr10))
                conv => lhs; whnf
                try simp only [ls]
                exact fq (y := some (AV.tup [AV.int .i64 ((-1)), AV.int .i64 ((-1))], []))
              · simp only [hc75, ls]
                conv => lhs; whnf
                exact cq (hcont9 (IntKind.i64.wrap (s1 + (IntKind.i64.wrap (1 - ((y22).1)))), (if s2 < (IntKind.i64.wrap (s1 + (IntKind.i64.wrap (1 - ((y22).1))))) then (IntKind.i64.wrap (s1 + (IntKind.i64.wrap (1 - ((y22).1))))) else s2), IntKind.i64.wrap (s3 + 1)) (fun _ => 0) hm)
            · simp only [hc74, ls]
              conv => lhs; whnf
              have hq := Option.some.inj hm; clear hm; subst hq
              refine (hK8 _ _).trans ?_
              refine Eq.trans ?_ (Eq.symm (show _ = some _ from hr10))
              conv => lhs; whnf
              try simp only [ls]
              exact fq (y := some (AV.tup [AV.int .i64 ((-1)), AV.int .i64 ((-1))], []))
        | c7 y23 =>
          dsimp only at hm
          have hk15 : call false 37 [AV.int .i64 (x13.op)] [] = some (AV.tup [AV.agg [AV.int .i64 ((y23).1), AV.func 53 [] []], AV.bool ((y23).2)], []) := (hc _ _ _).trans (ok_code_of n x13.op (.c7 y23) hy14)
          try simp only [List.drop_zero, ls]
          first | simp only [hk15] | rewrite [hk15]
          try simp only [ls]
          conv => lhs; whnf
          refine bif_or2 hm ?_ ?_ <;> clear hm <;> intro hc76 hm
          · simp only [hc76, ls]
            conv => lhs; whnf
            refine bif_or2 hm ?_ ?_ <;> clear hm <;> intro hc77 hm
            · simp only [hc77, ls]
              conv => lhs; whnf
              refine bif_or2 hm ?_ ?_ <;> clear hm <;> intro hc78 hm
              · simp only [hc78, ls]
                conv => lhs; whnf
                have hq := Option.some.inj hm; clear hm; subst hq
                refine (hK8 _ _).trans ?_
                refine Eq.trans ?_ (Eq.symm (show _ = some _ from hr10))
                conv => lhs; whnf
                try simp only [ls]
                exact fq (y := some (AV.tup [AV.int .i64 ((-1)), AV.int .i64 ((-1))], []))
              · simp only [hc78, ls]
                conv => lhs; whnf
                exact cq (hcont9 (IntKind.i64.wrap (s1 + (IntKind.i64.wrap (1 - ((y23).1)))), (if s2 < (IntKind.i64.wrap (s1 + (IntKind.i64.wrap (1 - ((y23).1))))) then (IntKind.i64.wrap (s1 + (IntKind.i64.wrap (1 - ((y23).1))))) else s2), IntKind.i64.wrap (s3 + 1)) (fun _ => 0) hm)
            · simp only [hc77, ls]
              conv => lhs; whnf
              refine bif_or2 hm ?_ ?_ <;> clear hm <;> intro hc79 hm
              · simp only [hc79, ls]
                conv => lhs; whnf
                refine bif_or2 hm ?_ ?_ <;> clear hm <;> intro hc80 hm
                · simp only [hc80, ls]
                  conv => lhs; whnf
                  have hq := Option.some.inj hm; clear hm; subst hq
                  refine (hK8 _ _).trans ?_
                  refine Eq.trans ?_ (Eq.symm (show _ = some _ from hr10))
                  conv => lhs; whnf
                  try simp only [ls]
                  exact fq (y := some (AV.tup [AV.int .i64 ((-1)), AV.int .i64 ((-1))], []))
                · simp only [hc80, ls]
                  conv => lhs; whnf
                  exact cq (hcont9 (IntKind.i64.wrap (s1 + (IntKind.i64.wrap (1 - ((y23).1)))), (if s2 < (IntKind.i64.wrap (s1 + (IntKind.i64.wrap (1 - ((y23).1))))) then (IntKind.i64.wrap (s1 + (IntKind.i64.wrap (1 - ((y23).1))))) else s2), IntKind.i64.wrap (s3 + 1)) (fun _ => 0) hm)
              · simp only [hc79, ls]
                conv => lhs; whnf
                have hq := Option.some.inj hm; clear hm; subst hq
                refine (hK8 _ _).trans ?_
                refine Eq.trans ?_ (Eq.symm (show _ = some _ from hr10))
                conv => lhs; whnf
                try simp only [ls]
                exact fq (y := some (AV.tup [AV.int .i64 ((-1)), AV.int .i64 ((-1))], []))
          · simp only [hc76, ls]
            conv => lhs; whnf
            refine bif_or2 hm ?_ ?_ <;> clear hm <;> intro hc81 hm
            · simp only [hc81, ls]
              conv => lhs; whnf
              refine bif_or2 hm ?_ ?_ <;> clear hm <;> intro hc82 hm
              · simp only [hc82, ls]
                conv => lhs; whnf
                have hq := Option.some.inj hm; clear hm; subst hq
                refine (hK8 _ _).trans ?_
                refine Eq.trans ?_ (Eq.symm (show _ = some _ from hr10))
                conv => lhs; whnf
                try simp only [ls]
                exact fq (y := some (AV.tup [AV.int .i64 ((-1)), AV.int .i64 ((-1))], []))
              · simp only [hc82, ls]
                conv => lhs; whnf
                exact cq (hcont9 (IntKind.i64.wrap (s1 + (IntKind.i64.wrap (1 - ((y23).1)))), (if s2 < (IntKind.i64.wrap (s1 + (IntKind.i64.wrap (1 - ((y23).1))))) then (IntKind.i64.wrap (s1 + (IntKind.i64.wrap (1 - ((y23).1))))) else s2), IntKind.i64.wrap (s3 + 1)) (fun _ => 0) hm)
            · simp only [hc81, ls]
              conv => lhs; whnf
              have hq := Option.some.inj hm; clear hm; subst hq
              refine (hK8 _ _).trans ?_
              refine Eq.trans ?_ (Eq.symm (show _ = some _ from hr10))
              conv => lhs; whnf
              try simp only [ls]
              exact fq (y := some (AV.tup [AV.int .i64 ((-1)), AV.int .i64 ((-1))], []))
        | c8 y24 =>
          dsimp only at hm
          have hk15 : call false 37 [AV.int .i64 (x13.op)] [] = some (AV.tup [AV.agg [AV.int .i64 ((y24).1), AV.func 52 [] []], AV.bool ((y24).2)], []) := (hc _ _ _).trans (ok_code_of n x13.op (.c8 y24) hy14)
          try simp only [List.drop_zero, ls]
          first | simp only [hk15] | rewrite [hk15]
          try simp only [ls]
          conv => lhs; whnf
          refine bif_or2 hm ?_ ?_ <;> clear hm <;> intro hc83 hm
          · simp only [hc83, ls]
            conv => lhs; whnf
            refine bif_or2 hm ?_ ?_ <;> clear hm <;> intro hc84 hm
            · simp only [hc84, ls]
              conv => lhs; whnf
              refine bif_or2 hm ?_ ?_ <;> clear hm <;> intro hc85 hm
              · simp only [hc85, ls]
                conv => lhs; whnf
                have hq := Option.some.inj hm; clear hm; subst hq
                refine (hK8 _ _).trans ?_
                refine Eq.trans ?_ (Eq.symm (show _ = some _ from hr10))
                conv => lhs; whnf
                try simp only [ls]
                exact fq (y := some (AV.tup [AV.int .i64 ((-1)), AV.int .i64 ((-1))], []))
              · simp only [hc85, ls]
                conv => lhs; whnf
                exact cq (hcont9 (IntKind.i64.wrap (s1 + (IntKind.i64.wrap (1 - ((y24).1)))), (if s2 < (IntKind.i64.wrap (s1 + (IntKind.i64.wrap (1 - ((y24).1))))) then (IntKind.i64.wrap (s1 + (IntKind.i64.wrap (1 - ((y24).1))))) else s2), IntKind.i64.wrap (s3 + 1)) (fun _ => 0) hm)
            · simp only [hc84, ls]
              conv => lhs; whnf
              refine bif_or2 hm ?_ ?_ <;> clear hm <;> intro hc86 hm
              · simp only [hc86, ls]
                conv => lhs; whnf
                refine bif_or2 hm ?_ ?_ <;> clear hm <;> intro hc87 hm
                · simp only [hc87, ls]
                  conv => lhs; whnf
                  have hq := Option.some.inj hm; clear hm; subst hq
                  refine (hK8 _ _).trans ?_
                  refine Eq.trans ?_ (Eq.symm (show _ = some _ from hr10))
                  conv => lhs; whnf
                  try simp only [ls]
                  exact fq (y := some (AV.tup [AV.int .i64 ((-1)), AV.int .i64 ((-1))], []))
                · simp only [hc87, ls]
                  conv => lhs; whnf
                  exact cq (hcont9 (IntKind.i64.wrap (s1 + (IntKind.i64.wrap (1 - ((y24).1)))), (if s2 < (IntKind.i64.wrap (s1 + (IntKind.i64.wrap (1 - ((y24).1))))) then (IntKind.i64.wrap (s1 + (IntKind.i64.wrap (1 - ((y24).1))))) else s2), IntKind.i64.wrap (s3 + 1)) (fun _ => 0) hm)
              · simp only [hc86, ls]
                conv => lhs; whnf
                have hq := Option.some.inj hm; clear hm; subst hq
                refine (hK8 _ _).trans ?_
                refine Eq.trans ?_ (Eq.symm (show _ = some _ from hr10))
                conv => lhs; whnf
                try simp only [ls]
                exact fq (y := some (AV.tup [AV.int .i64 ((-1)), AV.int .i64 ((-1))], []))
          · simp only [hc83, ls]
            conv => lhs; whnf
            refine bif_or2 hm ?_ ?_ <;> clear hm <;> intro hc88 hm
            · simp only [hc88, ls]
              conv => lhs; whnf
              refine bif_or2 hm ?_ ?_ <;> clear hm <;> intro hc89 hm
              · simp only [hc89, ls]
                conv => lhs; whnf
                have hq := Option.some.inj hm; clear hm; subst hq
                refine (hK8 _ _).trans ?_
                refine Eq.trans ?_ (Eq.symm (show _ = some _ from hr10))
                conv => lhs; whnf
                try simp only [ls]
                exact fq (y := some (AV.tup [AV.int .i64 ((-1)), AV.int .i64 ((-1))], []))
              · simp only [hc89, ls]
                conv => lhs; whnf
                exact cq (hcont9 (IntKind.i64.wrap (s1 + (IntKind.i64.wrap (1 - ((y24).1)))), (if s2 < (IntKind.i64.wrap (s1 + (IntKind.i64.wrap (1 - ((y24).1))))) then (IntKind.i64.wrap (s1 + (IntKind.i64.wrap (1 - ((y24).1))))) else s2), IntKind.i64.wrap (s3 + 1)) (fun _ => 0) hm)
            · simp only [hc88, ls]
              conv => lhs; whnf
              have hq := Option.some.inj hm; clear hm; subst hq
              refine (hK8 _ _).trans ?_
              refine Eq.trans ?_ (Eq.symm (show _ = some _ from hr10))
              conv => lhs; whnf
              try simp only [ls]
              exact fq (y := some (AV.tup [AV.int .i64 ((-1)), AV.int .i64 ((-1))], []))
        | c9 y25 =>
          dsimp only at hm
          have hk15 : call false 37 [AV.int .i64 (x13.op)] [] = some (AV.tup [AV.agg [AV.int .i64 ((y25).1), AV.func 51 [] []], AV.bool ((y25).2)], []) := (hc _ _ _).trans (ok_code_of n x13.op (.c9 y25) hy14)
          try simp only [List.drop_zero, ls]
          first | simp only [hk15] | rewrite [hk15]
          try simp only [ls]
          conv => lhs; whnf
          refine bif_or2 hm ?_ ?_ <;> clear hm <;> intro hc90 hm
          · simp only [hc90, ls]
            conv => lhs; whnf
            refine bif_or2 hm ?_ ?_ <;> clear hm <;> intro hc91 hm
            · simp only [hc91, ls]
              conv => lhs; whnf
              refine bif_or2 hm ?_ ?_ <;> clear hm <;> intro hc92 hm
              · simp only [hc92, ls]
                conv => lhs; whnf
                have hq := Option.some.inj hm; clear hm; subst hq
                refine (hK8 _ _).trans ?_
                refine Eq.trans ?_ (Eq.symm (show _ = some _ from hr10))
                conv => lhs; whnf
                try simp only [ls]
                exact fq (y := some (AV.tup [AV.int .i64 ((-1)), AV.int .i64 ((-1))], []))
              · simp only [hc92, ls]
                conv => lhs; whnf
                exact cq (hcont9 (IntKind.i64.wrap (s1 + (IntKind.i64.wrap (1 - ((y25).1)))), (if s2 < (IntKind.i64.wrap (s1 + (IntKind.i64.wrap (1 - ((y25).1))))) then (IntKind.i64.wrap (s1 + (IntKind.i64.wrap (1 - ((y25).1))))) else s2), IntKind.i64.wrap (s3 + 1)) (fun _ => 0) hm)
            · simp only [hc91, ls]
              conv => lhs; whnf
              refine bif_or2 hm ?_ ?_ <;> clear hm <;> intro hc93 hm
              · simp only [hc93, ls]
                conv => lhs; whnf
                refine bif_or2 hm ?_ ?_ <;> clear hm <;> intro hc94 hm
                · simp only [hc94, ls]
                  conv => lhs; whnf
                  have hq := Option.some.inj hm; clear hm; subst hq
                  refine (hK8 _ _).trans ?_
                  refine Eq.trans ?_ (Eq.symm (show _ = some _ from hr10))
                  conv => lhs; whnf
                  try simp only [ls]
                  exact fq (y := some (AV.tup [AV.int .i64 ((-1)), AV.int .i64 ((-1))], []))
                · simp only [hc94, ls]
                  conv => lhs; whnf
                  exact cq (hcont9 (IntKind.i64.wrap (s1 + (IntKind.i64.wrap (1 - ((y25).1)))), (if s2 < (IntKind.i64.wrap (s1 + (IntKind.i64.wrap (1 - ((y25).1))))) then (IntKind.i64.wrap (s1 + (IntKind.i64.wrap (1 - ((y25).1))))) else s2), IntKind.i64.wrap (s3 + 1)) (fun _ => 0) hm)
              · simp only [hc93, ls]
                conv => lhs; whnf
                have hq := Option.some.inj hm; clear hm; subst hq
                refine (hK8 _ _).trans ?_
                refine Eq.trans ?_ (Eq.symm (show _ = some _ from hr10))
                conv => lhs; whnf
                try simp only [ls]
                exact fq (y := some (AV.tup [AV.int .i64 ((-1)), AV.int .i64 ((-1))], []))
          · simp only [hc90, ls]
            conv => lhs; whnf
            refine bif_or2 hm ?_ ?_ <;> clear hm <;> intro hc95 hm
            · simp only [hc95, ls]
              conv => lhs; whnf
              refine bif_or2 hm ?_ ?_ <;> clear hm <;> intro hc96 hm
              · simp only [hc96, ls]
                conv => lhs; whnf
                have hq := Option.some.inj hm; clear hm; subst hq
                refine (hK8 _ _).trans ?_
                refine Eq.trans ?_ (Eq.symm (show _ = some _ from hr10))
                conv => lhs; whnf
                try simp only [ls]
                exact fq (y := some (AV.tup [AV.int .i64 ((-1)), AV.int .i64 ((-1))], []))
              · simp only [hc96, ls]
                conv => lhs; whnf
                exact cq (hcont9 (IntKind.i64.wrap (s1 + (IntKind.i64.wrap (1 - ((y25).1)))), (if s2 < (IntKind.i64.wrap (s1 + (IntKind.i64.wrap (1 - ((y25).1))))) then (IntKind.i64.wrap (s1 + (IntKind.i64.wrap (1 - ((y25).1))))) else s2), IntKind.i64.wrap (s3 + 1)) (fun _ => 0) hm)
            · simp only [hc95, ls]
              conv => lhs; whnf
              have hq := Option.some.inj hm; clear hm; subst hq
              refine (hK8 _ _).trans ?_
              refine Eq.trans ?_ (Eq.symm (show _ = some _ from hr10))
              conv => lhs; whnf
              try simp only [ls]
              exact fq (y := some (AV.tup [AV.int .i64 ((-1)), AV.int .i64 ((-1))], []))
        | c10 y26 =>
          dsimp only at hm
          have hk15 : call false 37 [AV.int .i64 (x13.op)] [] = some (AV.tup [AV.agg [AV.int .i64 ((y26).1), AV.func 49 [] []], AV.bool ((y26).2)], []) := (hc _ _ _).trans (ok_code_of n x13.op (.c10 y26) hy14)
          try simp only [List.drop_zero, ls]
          first | simp only [hk15] | rewrite [hk15]
          try simp only [ls]
          conv => lhs; whnf
          refine bif_or2 hm ?_ ?_ <;> clear hm <;> intro hc97 hm
          · simp only [hc97, ls]
            conv => lhs; whnf
            refine bif_or2 hm ?_ ?_ <;> clear hm <;> intro hc98 hm
            · simp only [hc98, ls]
              conv => lhs; whnf
              refine bif_or2 hm ?_ ?_ <;> clear hm <;> intro hc99 hm
              · simp only [hc99, ls]
                conv => lhs; whnf
                have hq := Option.some.inj hm; clear hm; subst hq
                refine (hK8 _ _).trans ?_
                refine Eq.trans ?_ (Eq.symm (show _ = some _ from hr10))
                conv => lhs; whnf
                try simp only [ls]
                exact fq (y := some (AV.tup [AV.int .i64 ((-1)), AV.int .i64 ((-1))], []))
              · simp only [hc99, ls]
                conv => lhs; whnf
                exact cq (hcont9 (IntKind.i64.wrap (s1 + (IntKind.i64.wrap (1 - ((y26).1)))), (if s2 < (IntKind.i64.wrap (s1 + (IntKind.i64.wrap (1 - ((y26).1))))) then (IntKind.i64.wrap (s1 + (IntKind.i64.wrap (1 - ((y26).1))))) else s2), IntKind.i64.wrap (s3 + 1)) (fun _ => 0) hm)
            · simp only [hc98, ls]
              conv => lhs; whnf
              refine bif_or2 hm ?_ ?_ <;> clear hm <;> intro hc100 hm
              · simp only [hc100, ls]
                conv => lhs; whnf
                refine bif_or2 hm ?_ ?_ <;> clear hm <;> intro hc101 hm
                · simp only [hc101, ls]
                  conv => lhs; whnf
                  have hq := Option.some.inj hm; clear hm; subst hq
                  refine (hK8 _ _).trans ?_
                  refine Eq.trans ?_ (Eq.symm (show _ = some _ from hr10))
                  conv => lhs; whnf
                  try simp only [ls]
                  exact fq (y := some (AV.tup [AV.int .i64 ((-1)), AV.int .i64 ((-1))], []))
                · simp only [hc101, ls]
                  conv => lhs; whnf
                  exact cq (hcont9 (IntKind.i64.wrap (s1 + (IntKind.i64.wrap (1 - ((y26).1)))), (if s2 < (IntKind.i64.wrap (s1 + (IntKind.i64.wrap (1 - ((y26).1))))) then (IntKind.i64.wrap (s1 + (IntKind.i64.wrap (1 - ((y26).1))))) else s2), IntKind.i64.wrap (s3 + 1)) (fun _ => 0) hm)
              · simp only [hc100, ls]
                conv => lhs; whnf
                have hq := Option.some.inj hm; clear hm; subst hq
                refine (hK8 _ _).trans ?_
                refine Eq.trans ?_ (Eq.symm (show _ = some _ from hr10))
                conv => lhs; whnf
                try simp only [ls]
                exact fq (y := some (AV.tup [AV.int .i64 ((-1)), AV.int .i64 ((-1))], []))
          · simp only [hc97, ls]
            conv => lhs; whnf
            refine bif_or2 hm ?_ ?_ <;> clear hm <;> intro hc102 hm
            · simp only [hc102, ls]
              conv => lhs; whnf
              refine bif_or2 hm ?_ ?_ <;> clear hm <;> intro hc103 hm
              · simp only [hc103, ls]
                conv => lhs; whnf
                have hq := Option.some.inj hm; clear hm; subst hq
                refine (hK8 _ _).trans ?_
                refine Eq.trans ?_ (Eq.symm (show _ = some _ from hr10))
                conv => lhs; whnf
                try simp only [ls]
                exact fq (y := some (AV.tup [AV.int .i64 ((-1)), AV.int .i64 ((-1))], []))
              · simp only [hc103, ls]
                conv => lhs; whnf
                exact cq (hcont9 (IntKind.i64.wrap (s1 + (IntKind.i64.wrap (1 - ((y26).1)))), (if s2 < (IntKind.i64.wrap (s1 + (IntKind.i64.wrap (1 - ((y26).1))))) then (IntKind.i64.wrap (s1 + (IntKind.i64.wrap (1 - ((y26).1))))) else s2), IntKind.i64.wrap (s3 + 1)) (fun _ => 0) hm)
            · simp only [hc102, ls]
              conv => lhs; whnf
              have hq := Option.some.inj hm; clear hm; subst hq
              refine (hK8 _ _).trans ?_
              refine Eq.trans ?_ (Eq.symm (show _ = some _ from hr10))
              conv => lhs; whnf
              try simp only [ls]
              exact fq (y := some (AV.tup [AV.int .i64 ((-1)), AV.int .i64 ((-1))], []))
      · simp only [hc12, ls]
        conv => lhs; whnf
        have hq := Option.some.inj hm; clear hm; subst hq
        exact kq (hr10 (fun _ => 0))
    · cases o11 with
      | ret v =>
        have hq := Option.some.inj hm; clear hm; subst hq
        rfl
      | out t =>
        obtain ⟨x105, x106⟩ := t
        intro a104
        dsimp only at hm
        conv => lhs; whnf
        have hq := Option.some.inj hm; clear hm; subst hq
        try simp only [ls]
        exact fq (y := some (AV.tup [AV.int .i64 (x105), AV.int .i64 (x106)], []))

set_option maxHeartbeats 4000000 in
theorem ok_code_Depth (n : Nat) : ∀ (v0_l : (List OpS)) (r : Int), m_code_Depth n v0_l = some r → callN Try.prog HH XT n 19 [AV.sl 3 (List.map encOp (v0_l))] [] = some (AV.int .i64 (r), []) := by
  cases n with
  | zero => intro v0_l r hm; exact absurd hm (by intro h; cases h)
  | succ n =>
    intro v0_l r hm
    rw [m_code_Depth] at hm
    refine callN_eq' Try.func19 (by rfl) rfl rfl (Nat.le_of_ble_eq_true rfl) ?_
    intro call hc
    conv => lhs; whnf
    refine bind_some2 hm ?_; clear hm; intro y1 hy1 hm
    have hk2 : call false 41 [AV.sl 3 (List.map encOp (v0_l))] [] = some (AV.tup [AV.int .i64 ((y1).1), AV.int .i64 ((y1).2)], []) := (hc _ _ _).trans (ok_code_lies n v0_l y1 hy1)
    try simp only [List.drop_zero, ls]
    first | simp only [hk2] | rewrite [hk2]
    try simp only [ls]
    conv => lhs; whnf
    have hq := Option.some.inj hm; clear hm; subst hq
    try simp only [ls]
    exact fq (y := some (AV.int .i64 ((y1).2), []))
end Go.Proofs.Ytmnnkeejgkhgpaa
end

section
namespace Go.Proofs.Ytmnnkeejgkhgpaa
set_option linter.unusedVariables false
set_option linter.unusedSimpArgs false
set_option maxRecDepth 100000

set_option maxHeartbeats 4000000 in
theorem ok_code_Right (n : Nat) : ∀ (v0_l : (List OpS)) (v1_regs : (List Int)) (v2_own : Int) (v3_locs : Int) (r : Bool), m_code_Right n v0_l v1_regs v2_own v3_locs = some r → callN Try.prog HH XT n 21 [AV.sl 3 (List.map encOp (v0_l)), AV.sl 1 (List.map encI (v1_regs)), AV.int .i64 (v2_own), AV.int .i64 (v3_locs)] [] = some (AV.bool (r), []) := by
  cases n with
  | zero => intro v0_l v1_regs v2_own v3_locs r hm; exact absurd hm (by intro h; cases h)
  | succ n =>
    intro v0_l v1_regs v2_own v3_locs r hm
    rw [m_code_Right] at hm
    refine callN_eq' Try.func21 (by rfl) rfl rfl (Nat.le_of_ble_eq_true rfl) ?_
    intro call hc
    conv => lhs; whnf
    refine bind_some2 hm ?_; clear hm; intro o9 ho9 hm
    refine rounds_sim (σ := Int) (τ := Unit) (ν := Bool) 0 (fun s1 a3 => stOf 64 [(0, AV.sl 3 (List.map encOp (v0_l))), (1, AV.sl 1 (List.map encI (v1_regs))), (2, AV.int .i64 (v2_own)), (3, AV.int .i64 (v3_locs)), (14, AV.sl 3 (List.map encOp (v0_l))), (15, AV.int .i64 ((((v0_l).length : Nat) : Int))), (16, AV.int .i64 (s1))]) (fun s1 a3 => []) (fun _ a31 => stOf 64 [(0, AV.sl 3 (List.map encOp (v0_l)))]) (fun _ a31 => []) (fun v => (AV.bool (v), [])) (fun k s => code_Right_L0 n v0_l v1_regs v2_own v3_locs k s) (fun s => rfl) o9 ?_ n 0 (fun _ => 0) _ _ ho9 ?_ (by first | rfl | (simp only [ls, List.map_append, List.map_cons, List.map_nil, List.append_nil, List.length_set, length_copyL] <;> rfl)) (by first | rfl | (simp only [ls, List.map_append, List.map_cons, List.map_nil, List.append_nil, List.length_set, length_copyL] <;> rfl))
    · intro k2 ss a3 K4 cont5 hK6 hcont7 hm hr8
      obtain ⟨s1, rfl⟩ : ∃ x, x = ss := ⟨_, rfl⟩
      replace hm : code_Right_L0 n v0_l v1_regs v2_own v3_locs (k2 + 1) s1 = some o9 := hm
      rw [code_Right_L0] at hm
      conv => lhs; whnf
      refine bif_or2 hm ?_ ?_ <;> clear hm <;> intro hc10 hm
      · simp only [hc10, ls]
        conv => lhs; whnf
        refine bind_some2 hm ?_; clear hm; intro x11 hx11 hm
        refine bif_pos (by first | exact idx_in hx11 | exact idx_in' hx11) ?_
        simp only [idx_nth (f := encOp) hx11, ls]
        conv => lhs; whnf
        refine bif_or2 hm ?_ ?_ <;> clear hm <;> intro hc12 hm
        · simp only [hc12, ls]
          conv => lhs; whnf
          refine bif_or2 hm ?_ ?_ <;> clear hm <;> intro hc13 hm
          · simp only [hc13, ls]
            conv => lhs; whnf
            have hq := Option.some.inj hm; clear hm; subst hq
            refine (hK6 _ _).trans ?_
            refine Eq.trans ?_ (Eq.symm (show _ = some _ from hr8))
            conv => lhs; whnf
            try simp only [ls]
            exact fq (y := some (AV.bool (false), []))
          · simp only [hc13, ls]
            conv => lhs; whnf
            refine bif_or2 hm ?_ ?_ <;> clear hm <;> intro hc14 hm
            · simp only [hc14, ls]
              conv => lhs; whnf
              have hq := Option.some.inj hm; clear hm; subst hq
              refine (hK6 _ _).trans ?_
              refine Eq.trans ?_ (Eq.symm (show _ = some _ from hr8))
              conv => lhs; whnf
              try simp only [ls]
              exact fq (y := some (AV.bool (false), []))
            · simp only [hc14, ls]
              conv => lhs; whnf
              exact cq (hcont7 (IntKind.i64.wrap (s1 + 1)) (fun _ => 0) hm)
        · simp only [hc12, ls]
          conv => lhs; whnf
          refine bif_or2 hm ?_ ?_ <;> clear hm <;> intro hc15 hm
          · simp only [hc15, ls]
            conv => lhs; whnf
            refine bif_or2 hm ?_ ?_ <;> clear hm <;> intro hc16 hm
            · simp only [hc16, ls]
              conv => lhs; whnf
              have hq := Option.some.inj hm; clear hm; subst hq
              refine (hK6 _ _).trans ?_
              refine Eq.trans ?_ (Eq.symm (show _ = some _ from hr8))
              conv => lhs; whnf
              try simp only [ls]
              exact fq (y := some (AV.bool (false), []))
            · simp only [hc16, ls]
              conv => lhs; whnf
              refine bif_or2 hm ?_ ?_ <;> clear hm <;> intro hc17 hm
              · simp only [hc17, ls]
                conv => lhs; whnf
                have hq := Option.some.inj hm; clear hm; subst hq
                refine (hK6 _ _).trans ?_
                refine Eq.trans ?_ (Eq.symm (show _ = some _ from hr8))
                conv => lhs; whnf
                try simp only [ls]
                exact fq (y := some (AV.bool (false), []))
              · simp only [hc17, ls]
                conv => lhs; whnf
                exact cq (hcont7 (IntKind.i64.wrap (s1 + 1)) (fun _ => 0) hm)
          · simp only [hc15, ls]
            conv => lhs; whnf
            refine bif_or2 hm ?_ ?_ <;> clear hm <;> intro hc18 hm
            · simp only [hc18, ls]
              conv => lhs; whnf
              refine bif_or2 hm ?_ ?_ <;> clear hm <;> intro hc19 hm
              · simp only [hc19, ls]
                conv => lhs; whnf
                have hq := Option.some.inj hm; clear hm; subst hq
                refine (hK6 _ _).trans ?_
                refine Eq.trans ?_ (Eq.symm (show _ = some _ from hr8))
                conv => lhs; whnf
                try simp only [ls]
                exact fq (y := some (AV.bool (false), []))
              · simp only [hc19, ls]
                conv => lhs; whnf
                refine bif_or2 hm ?_ ?_ <;> clear hm <;> intro hc20 hm
                · simp only [hc20, ls]
                  conv => lhs; whnf
                  have hq := Option.some.inj hm; clear hm; subst hq
                  refine (hK6 _ _).trans ?_
                  refine Eq.trans ?_ (Eq.symm (show _ = some _ from hr8))
                  conv => lhs; whnf
                  try simp only [ls]
                  exact fq (y := some (AV.bool (false), []))
                · simp only [hc20, ls]
                  conv => lhs; whnf
                  exact cq (hcont7 (IntKind.i64.wrap (s1 + 1)) (fun _ => 0) hm)
            · simp only [hc18, ls]
              conv => lhs; whnf
              refine bif_or2 hm ?_ ?_ <;> clear hm <;> intro hc21 hm
              · simp only [hc21, ls]
                conv => lhs; whnf
                refine bif_or2 hm ?_ ?_ <;> clear hm <;> intro hc22 hm
                · simp only [hc22, ls]
                  conv => lhs; whnf
                  refine bif_or2 hm ?_ ?_ <;> clear hm <;> intro hc23 hm
                  · simp only [hc23, ls]
                    conv => lhs; whnf
                    refine bind_some2 hm ?_; clear hm; intro x24 hx24 hm
                    refine bif_pos (by first | exact idx_in hx24 | exact idx_in' hx24) ?_
                    simp only [idx_nth (f := encI) hx24, ls]
                    conv => lhs; whnf
                    refine bif_or2 hm ?_ ?_ <;> clear hm <;> intro hc25 hm
                    · simp only [hc25, ls]
                      conv => lhs; whnf
                      have hq := Option.some.inj hm; clear hm; subst hq
                      refine (hK6 _ _).trans ?_
                      refine Eq.trans ?_ (Eq.symm (show _ = some _ from hr8))
                      conv => lhs; whnf
                      try simp only [ls]
                      exact fq (y := some (AV.bool (false), []))
                    · simp only [hc25, ls]
                      conv => lhs; whnf
                      refine bif_or2 hm ?_ ?_ <;> clear hm <;> intro hc26 hm
                      · simp only [hc26, ls]
                        conv => lhs; whnf
                        have hq := Option.some.inj hm; clear hm; subst hq
                        refine (hK6 _ _).trans ?_
                        refine Eq.trans ?_ (Eq.symm (show _ = some _ from hr8))
                        conv => lhs; whnf
                        try simp only [ls]
                        exact fq (y := some (AV.bool (false), []))
                      · simp only [hc26, ls]
                        conv => lhs; whnf
                        exact cq (hcont7 (IntKind.i64.wrap (s1 + 1)) (fun _ => 0) hm)
                  · simp only [hc23, ls]
                    conv => lhs; whnf
                    refine bif_or2 hm ?_ ?_ <;> clear hm <;> intro hc27 hm
                    · simp only [hc27, ls]
                      conv => lhs; whnf
                      have hq := Option.some.inj hm; clear hm; subst hq
                      refine (hK6 _ _).trans ?_
                      refine Eq.trans ?_ (Eq.symm (show _ = some _ from hr8))
                      conv => lhs; whnf
                      try simp only [ls]
                      exact fq (y := some (AV.bool (false), []))
                    · simp only [hc27, ls]
                      conv => lhs; whnf
                      refine bif_or2 hm ?_ ?_ <;> clear hm <;> intro hc28 hm
                      · simp only [hc28, ls]
                        conv => lhs; whnf
                        have hq := Option.some.inj hm; clear hm; subst hq
                        refine (hK6 _ _).trans ?_
                        refine Eq.trans ?_ (Eq.symm (show _ = some _ from hr8))
                        conv => lhs; whnf
                        try simp only [ls]
                        exact fq (y := some (AV.bool (false), []))
                      · simp only [hc28, ls]
                        conv => lhs; whnf
                        exact cq (hcont7 (IntKind.i64.wrap (s1 + 1)) (fun _ => 0) hm)
                · simp only [hc22, ls]
                  conv => lhs; whnf
                  refine bif_or2 hm ?_ ?_ <;> clear hm <;> intro hc29 hm
                  · simp only [hc29, ls]
                    conv => lhs; whnf
                    have hq := Option.some.inj hm; clear hm; subst hq
                    refine (hK6 _ _).trans ?_
                    refine Eq.trans ?_ (Eq.symm (show _ = some _ from hr8))
                    conv => lhs; whnf
                    try simp only [ls]
                    exact fq (y := some (AV.bool (false), []))
                  · simp only [hc29, ls]
                    conv => lhs; whnf
                    refine bif_or2 hm ?_ ?_ <;> clear hm <;> intro hc30 hm
                    · simp only [hc30, ls]
                      conv => lhs; whnf
                      have hq := Option.some.inj hm; clear hm; subst hq
                      refine (hK6 _ _).trans ?_
                      refine Eq.trans ?_ (Eq.symm (show _ = some _ from hr8))
                      conv => lhs; whnf
                      try simp only [ls]
                      exact fq (y := some (AV.bool (false), []))
                    · simp only [hc30, ls]
                      conv => lhs; whnf
                      exact cq (hcont7 (IntKind.i64.wrap (s1 + 1)) (fun _ => 0) hm)
              · simp only [hc21, ls]
                conv => lhs; whnf
                exact cq (hcont7 (IntKind.i64.wrap (s1 + 1)) (fun _ => 0) hm)
      · simp only [hc10, ls]
        conv => lhs; whnf
        have hq := Option.some.inj hm; clear hm; subst hq
        exact kq (hr8 (fun _ => 0))
    · cases o9 with
      | ret v =>
        have hq := Option.some.inj hm; clear hm; subst hq
        rfl
      | out t =>
        intro a31
        dsimp only at hm
        conv => lhs; whnf
        refine bind_some2 hm ?_; clear hm; intro y32 hy32 hm
        have hk33 : call false 41 [AV.sl 3 (List.map encOp (v0_l))] [] = some (AV.tup [AV.int .i64 ((y32).1), AV.int .i64 ((y32).2)], []) := (hc _ _ _).trans (ok_code_lies n v0_l y32 hy32)
        try simp only [List.drop_zero, ls]
        first | simp only [hk33] | rewrite [hk33]
        try simp only [ls]
        conv => lhs; whnf
        have hq := Option.some.inj hm; clear hm; subst hq
        try simp only [ls]
        exact fq (y := some (AV.bool ((((y32).1) == 1)), []))

set_option maxHeartbeats 4000000 in
theorem ok_code_Thread_1 (n : Nat) : ∀ (v0_x : S_api_Node) (o0 : (List (List UInt8))) (r : (OpS × Bool)), m_code_Thread_1 n v0_x o0 = some r → callN Try.prog HH XT n 27 [AV.agg [AV.int .i64 (v0_x.f_Op), AV.int .i64 (v0_x.f_N), AV.str (v0_x.f_Name), AV.str (v0_x.f_In), AV.int .i64 (v0_x.f_At)], AV.ptr 0 0] [Ob.var 23 [AV.sl 1 (List.map encS (o0))]] = some (AV.tup [AV.agg [AV.int .i64 ((r).1.op), AV.int .i64 ((r).1.n), AV.int .i64 ((r).1.t)], AV.bool ((r).2)], [Ob.var 23 [AV.sl 1 (List.map encS (o0))]]) := by
  cases n with
  | zero => intro v0_x o0 r hm; exact absurd hm (by intro h; cases h)
  | succ n =>
    intro v0_x o0 r hm
    rw [m_code_Thread_1] at hm
    refine callN_eq' Try.func27 (by rfl) rfl rfl (Nat.le_of_ble_eq_true rfl) ?_
    intro call hc
    conv => lhs; whnf
    refine bif_or2 hm ?_ ?_ <;> clear hm <;> intro hc1 hm
    · simp only [hc1, ls]
      conv => lhs; whnf
      have hq := Option.some.inj hm; clear hm; subst hq
      try simp only [ls]
      exact fq (y := some (AV.tup [AV.agg [AV.int .i64 (1), AV.int .i64 (v0_x.f_N), AV.int .i64 (0)], AV.bool (true)], [Ob.var 23 [AV.sl 1 (List.map encS (o0))]]))
    · simp only [hc1, ls]
      conv => lhs; whnf
      refine bind_some2 hm ?_; clear hm; intro y2 hy2 hm
      have hk3 : call false 28 [AV.sl 1 (List.map encS (o0)), AV.str (v0_x.f_Name)] [] = some (AV.int .i64 (y2), []) := (hc _ _ _).trans (ok_legal_Index n o0 v0_x.f_Name y2 hy2)
      try simp only [List.drop_zero, ls]
      first | simp only [hk3] | rewrite [hk3]
      try simp only [ls]
      conv => lhs; whnf
      refine bif_or2 hm ?_ ?_ <;> clear hm <;> intro hc4 hm
      · simp only [hc4, ls]
        conv => lhs; whnf
        have hq := Option.some.inj hm; clear hm; subst hq
        try simp only [ls]
        exact fq (y := some (AV.tup [AV.agg [AV.int .i64 (2), AV.int .i64 (y2), AV.int .i64 (0)], AV.bool ((y2 != (-1)))], [Ob.var 23 [AV.sl 1 (List.map encS (o0))]]))
      · simp only [hc4, ls]
        conv => lhs; whnf
        have hq := Option.some.inj hm; clear hm; subst hq
        try simp only [ls]
        exact fq (y := some (AV.tup [AV.agg [AV.int .i64 (2), AV.int .i64 (y2), AV.int .i64 (0)], AV.bool (false)], [Ob.var 23 [AV.sl 1 (List.map encS (o0))]]))
end Go.Proofs.Ytmnnkeejgkhgpaa
end

