/- Parts of the proofs: what they lean on. Conditions: none. -/
import Derived.Test.YtmnnkeejgkhgpaaProg
import Derived.Test.YtmnnkeejgkhgpaaCodeS10
section
namespace Go.Proofs.Ytmnnkeejgkhgpaa
open Go.RowKit Go.WideShapes
set_option linter.unusedVariables false
set_option linter.unusedSimpArgs false

theorem okWide_struct' {P : Program} {w : World} {r : Reach} {base : Nat} {t : TypeId} {v : Value} {fs : Array Field} (ht : P.underlying t = some (.struct fs)) (h : Value.okWide P w r base t v) : ∃ cs, v = .agg cs := by
  simp only [Value.okWide, ht] at h
  obtain ⟨cs, rfl, _⟩ := h
  exact ⟨cs, rfl⟩
end Go.Proofs.Ytmnnkeejgkhgpaa
end

section
namespace Go.Proofs.Ytmnnkeejgkhgpaa
set_option linter.unusedVariables false
set_option linter.unusedSimpArgs false
theorem rep_agg {α : Type} {r : Rd α} {enc : α → List AV} (he : Enc r enc) {W : World} {cs : Array Value} {x : α} (h : r.rel W (Value.agg cs).cells.toList x) : Rep (SAll W) W [] [] (.agg (enc x)) (.agg cs) := by
  obtain ⟨h1, h2⟩ := he _ _ _ h
  cases cs
  exact .agg _ _ _ _ h1 h2
theorem rep_one {α : Type} {r : Rd α} {f : α → AV} (he : Enc r (fun x => [f x])) {W : World} {s : Option Addr} {len cap : Nat} {x : α} (h : r.rel W (Value.slice s len cap).cells.toList x) : Rep (SAll W) W [] [] (f x) (.slice s len cap) := by
  obtain ⟨h1, _⟩ := he _ _ _ h
  cases h1 with | cons _ _ _ _ _ _ h t => exact h
def rd_int_i64 : Rd Int := rInt .i64
theorem op_int_i64 : Opens Try.prog 3 rd_int_i64 := opens_int Try.underlying3 (by kernel_rfl)
theorem en_int_i64 : Enc rd_int_i64 encI := enc_int _
def rd_string : Rd (List UInt8) := rStr
theorem op_string : Opens Try.prog 9 rd_string := opens_str Try.underlying9 (by kernel_rfl)
theorem en_string : Enc rd_string encS := enc_str
def rd_api_Node : Rd S_api_Node := rMap (fun x => ⟨x.1, x.2.1, x.2.2.1, x.2.2.2.1, x.2.2.2.2⟩) (rPair rd_int_i64 (rPair rd_int_i64 (rPair rd_string (rPair rd_string rd_int_i64))))
theorem op_api_Node : Opens Try.prog 57 rd_api_Node := opens_map _ (opens_struct Try.underlying57 (by kernel_rfl) (fields_cons rfl op_int_i64 (fields_cons rfl op_int_i64 (fields_cons rfl op_string (fields_cons rfl op_string (fields_one rfl op_int_i64) (by decide)) (by decide)) (by decide)) (by decide)))
theorem en_api_Node : Enc rd_api_Node c_api_Node := enc_map (fun _ => rfl) (enc_pair en_int_i64 (enc_pair en_int_i64 (enc_pair en_string (enc_pair en_string en_int_i64))))
def rd_sl_api_Node : Rd (List S_api_Node) := rSlice rd_api_Node
theorem op_sl_api_Node : Opens Try.prog 22 rd_sl_api_Node := opens_slice Try.underlying22 (by kernel_rfl) op_api_Node (by decide)
theorem en_sl_api_Node : Enc rd_sl_api_Node (fun l => [AV.sl 5 (l.map c_api_Node)]) := enc_slice en_api_Node
def rd_sl_string : Rd (List (List UInt8)) := rSlice rd_string
theorem op_sl_string : Opens Try.prog 23 rd_sl_string := opens_slice Try.underlying23 (by kernel_rfl) op_string (by decide)
theorem en_sl_string : Enc rd_sl_string (fun l => [AV.sl 1 (l.map encS)]) := enc_slice en_string
def rd_api_Var : Rd S_api_Var := rMap (fun x => ⟨x.1, x.2.1, x.2.2⟩) (rPair rd_string (rPair rd_int_i64 rd_int_i64))
theorem op_api_Var : Opens Try.prog 59 rd_api_Var := opens_map _ (opens_struct Try.underlying59 (by kernel_rfl) (fields_cons rfl op_string (fields_cons rfl op_int_i64 (fields_one rfl op_int_i64) (by decide)) (by decide)))
theorem en_api_Var : Enc rd_api_Var c_api_Var := enc_map (fun _ => rfl) (enc_pair en_string (enc_pair en_int_i64 en_int_i64))
def rd_sl_api_Var : Rd (List S_api_Var) := rSlice rd_api_Var
theorem op_sl_api_Var : Opens Try.prog 24 rd_sl_api_Var := opens_slice Try.underlying24 (by kernel_rfl) op_api_Var (by decide)
theorem en_sl_api_Var : Enc rd_sl_api_Var (fun l => [AV.sl 3 (l.map c_api_Var)]) := enc_slice en_api_Var
def rd_bool : Rd Bool := rBool
theorem op_bool : Opens Try.prog 4 rd_bool := opens_bool Try.underlying4 (by kernel_rfl)
theorem en_bool : Enc rd_bool encBl := enc_bool
def rd_api_Stmt : Rd S_api_Stmt := rMap (fun x => ⟨x.1, x.2.1, x.2.2.1, x.2.2.2.1, x.2.2.2.2.1, x.2.2.2.2.2.1, x.2.2.2.2.2.2.1, x.2.2.2.2.2.2.2.1, x.2.2.2.2.2.2.2.2⟩) (rPair rd_int_i64 (rPair rd_string (rPair rd_string (rPair rd_sl_api_Node (rPair rd_sl_api_Node (rPair rd_bool (rPair rd_int_i64 (rPair rd_int_i64 rd_int_i64))))))))
theorem op_api_Stmt : Opens Try.prog 84 rd_api_Stmt := opens_map _ (opens_struct Try.underlying84 (by kernel_rfl) (fields_cons rfl op_int_i64 (fields_cons rfl op_string (fields_cons rfl op_string (fields_cons rfl op_sl_api_Node (fields_cons rfl op_sl_api_Node (fields_cons rfl op_bool (fields_cons rfl op_int_i64 (fields_cons rfl op_int_i64 (fields_one rfl op_int_i64) (by decide)) (by decide)) (by decide)) (by decide)) (by decide)) (by decide)) (by decide)) (by decide)))
theorem en_api_Stmt : Enc rd_api_Stmt c_api_Stmt := enc_map (fun _ => rfl) (enc_pair en_int_i64 (enc_pair en_string (enc_pair en_string (enc_pair en_sl_api_Node (enc_pair en_sl_api_Node (enc_pair en_bool (enc_pair en_int_i64 (enc_pair en_int_i64 en_int_i64))))))))
def rd_sl_api_Stmt : Rd (List S_api_Stmt) := rSlice rd_api_Stmt
theorem op_sl_api_Stmt : Opens Try.prog 60 rd_sl_api_Stmt := opens_slice Try.underlying60 (by kernel_rfl) op_api_Stmt (by decide)
theorem en_sl_api_Stmt : Enc rd_sl_api_Stmt (fun l => [AV.sl 9 (l.map c_api_Stmt)]) := enc_slice en_api_Stmt
def rd_api_Thread : Rd S_api_Thread := rMap (fun x => ⟨x.1, x.2.1, x.2.2.1, x.2.2.2⟩) (rPair rd_string (rPair rd_sl_string (rPair rd_sl_api_Stmt rd_int_i64)))
theorem op_api_Thread : Opens Try.prog 62 rd_api_Thread := opens_map _ (opens_struct Try.underlying62 (by kernel_rfl) (fields_cons rfl op_string (fields_cons rfl op_sl_string (fields_cons rfl op_sl_api_Stmt (fields_one rfl op_int_i64) (by decide)) (by decide)) (by decide)))
theorem en_api_Thread : Enc rd_api_Thread c_api_Thread := enc_map (fun _ => rfl) (enc_pair en_string (enc_pair en_sl_string (enc_pair en_sl_api_Stmt en_int_i64)))
def rd_sl_api_Thread : Rd (List S_api_Thread) := rSlice rd_api_Thread
theorem op_sl_api_Thread : Opens Try.prog 25 rd_sl_api_Thread := opens_slice Try.underlying25 (by kernel_rfl) op_api_Thread (by decide)
theorem en_sl_api_Thread : Enc rd_sl_api_Thread (fun l => [AV.sl 4 (l.map c_api_Thread)]) := enc_slice en_api_Thread
def rd_api_Claim : Rd S_api_Claim := rMap (fun x => ⟨x.1, x.2.1, x.2.2⟩) (rPair rd_int_i64 (rPair rd_sl_api_Node rd_int_i64))
theorem op_api_Claim : Opens Try.prog 65 rd_api_Claim := opens_map _ (opens_struct Try.underlying65 (by kernel_rfl) (fields_cons rfl op_int_i64 (fields_cons rfl op_sl_api_Node (fields_one rfl op_int_i64) (by decide)) (by decide)))
theorem en_api_Claim : Enc rd_api_Claim c_api_Claim := enc_map (fun _ => rfl) (enc_pair en_int_i64 (enc_pair en_sl_api_Node en_int_i64))
def rd_sl_api_Claim : Rd (List S_api_Claim) := rSlice rd_api_Claim
theorem op_sl_api_Claim : Opens Try.prog 26 rd_sl_api_Claim := opens_slice Try.underlying26 (by kernel_rfl) op_api_Claim (by decide)
theorem en_sl_api_Claim : Enc rd_sl_api_Claim (fun l => [AV.sl 3 (l.map c_api_Claim)]) := enc_slice en_api_Claim
def rd_api_Prog : Rd S_api_Prog := rMap (fun x => ⟨x.1, x.2.1, x.2.2.1, x.2.2.2⟩) (rPair rd_int_i64 (rPair rd_sl_api_Var (rPair rd_sl_api_Thread rd_sl_api_Claim)))
theorem op_api_Prog : Opens Try.prog 28 rd_api_Prog := opens_map _ (opens_struct Try.underlying28 (by kernel_rfl) (fields_cons rfl op_int_i64 (fields_cons rfl op_sl_api_Var (fields_cons rfl op_sl_api_Thread (fields_one rfl op_sl_api_Claim) (by decide)) (by decide)) (by decide)))
theorem en_api_Prog : Enc rd_api_Prog c_api_Prog := enc_map (fun _ => rfl) (enc_pair en_int_i64 (enc_pair en_sl_api_Var (enc_pair en_sl_api_Thread en_sl_api_Claim)))
end Go.Proofs.Ytmnnkeejgkhgpaa
end

section
namespace Go.Proofs.Ytmnnkeejgkhgpaa
set_option linter.unusedVariables false
set_option linter.unusedSimpArgs false
set_option maxRecDepth 100000

def m_ref01_words : Nat → Option (List (List UInt8))
  | 0 => none
  | n+1 => (some ([([109, 111, 100] : List UInt8), ([108, 111, 99] : List UInt8), ([116, 104, 114, 101, 97, 100] : List UInt8), ([114, 101, 103] : List UInt8), ([115, 107, 105, 112] : List UInt8), ([115, 101, 116] : List UInt8), ([108, 111, 97, 100] : List UInt8), ([115, 116, 111, 114, 101] : List UInt8), ([99, 97, 115] : List UInt8), ([102, 97, 100, 100] : List UInt8), ([120, 99, 104, 103] : List UInt8), ([102, 101, 110, 99, 101] : List UInt8), ([97, 119, 97, 105, 116] : List UInt8), ([105, 102] : List UInt8), ([101, 108, 115, 101] : List UInt8), ([119, 104, 105, 108, 101] : List UInt8), ([108, 111, 111, 112] : List UInt8), ([98, 114, 101, 97, 107] : List UInt8), ([102, 111, 114, 97, 108, 108] : List UInt8), ([101, 120, 105, 115, 116, 115] : List UInt8), ([97, 108, 119, 97, 121, 115] : List UInt8)] : List (List UInt8)))

def ref01_Keyword_L0 (n : Nat)  (v0_s : (List UInt8)) (y1 : (List (List UInt8))) : Nat → Int → Option (LR Unit Bool)
  | 0, _ => none
  | k4+1, s3 => (bif decide (s3 < (((y1).length : Nat) : Int)) then ((idx y1 s3).bind fun x13 => (bif (x13 == v0_s) then (some (.ret true)) else (ref01_Keyword_L0 n v0_s y1 k4 (IntKind.i64.wrap (s3 + 1))))) else (some (.out ())))
def m_ref01_Keyword : Nat → (List UInt8) → Option Bool
  | 0, _ => none
  | n+1, v0_s => ((m_ref01_words n ).bind fun y1 => ((ref01_Keyword_L0 n v0_s y1 n 0).bind fun o11 => match o11 with | .out _ => (some false) | .ret v => some v))

def m_ref01_digit : Nat → Int → Option Bool
  | 0, _ => none
  | n+1, v0_c => (bif decide (48 ≤ v0_c) then (some (decide (v0_c ≤ 57))) else (some false))

def m_ref01_letter : Nat → Int → Option Bool
  | 0, _ => none
  | n+1, v0_c => (bif decide (97 ≤ v0_c) then (bif decide (v0_c ≤ 122) then (some true) else (bif decide (65 ≤ v0_c) then (bif decide (v0_c ≤ 90) then (some true) else (some (v0_c == 95))) else (some (v0_c == 95)))) else (bif decide (65 ≤ v0_c) then (bif decide (v0_c ≤ 90) then (some true) else (some (v0_c == 95))) else (some (v0_c == 95))))

def ref01_Name_L0 (n : Nat)  (v0_s : (List UInt8)) : Nat → Int → Option (LR Unit Bool)
  | 0, _ => none
  | k11+1, s10 => (bif decide (s10 < (((v0_s).length : Nat) : Int)) then ((idx v0_s s10).bind fun x20 => ((m_ref01_letter n ((x20).toNat : Int)).bind fun y21 => (bif y21 then (ref01_Name_L0 n v0_s k11 (IntKind.i64.wrap (s10 + 1))) else ((idx v0_s s10).bind fun x24 => ((m_ref01_digit n ((x24).toNat : Int)).bind fun y25 => (bif y25 then (ref01_Name_L0 n v0_s k11 (IntKind.i64.wrap (s10 + 1))) else (some (.ret false)))))))) else (some (.out ())))
def m_ref01_Name : Nat → (List UInt8) → Option Bool
  | 0, _ => none
  | n+1, v0_s => (bif decide ((((v0_s).length : Nat) : Int) < 1) then (some false) else (bif decide (16 < (((v0_s).length : Nat) : Int)) then (some false) else ((idx v0_s 0).bind fun x3 => ((m_ref01_letter n ((x3).toNat : Int)).bind fun y4 => (bif y4 then ((m_ref01_Keyword n v0_s).bind fun y7 => (bif y7 then (some false) else ((ref01_Name_L0 n v0_s n 0).bind fun o18 => match o18 with | .out _ => (some true) | .ret v => some v))) else (some false))))))

def ref02_Light_L0 (n : Nat)  (v0_l : (List S_api_Node)) : Nat → Int → Option (LR Unit Bool)
  | 0, _ => none
  | k3+1, s2 => (bif decide (s2 < (((v0_l).length : Nat) : Int)) then ((idx v0_l s2).bind fun x12 => (bif decide (100 < (((x12.f_Name).length : Nat) : Int)) then (some (.ret false)) else ((idx v0_l s2).bind fun x14 => (bif decide (100 < (((x14.f_In).length : Nat) : Int)) then (some (.ret false)) else (ref02_Light_L0 n v0_l k3 (IntKind.i64.wrap (s2 + 1))))))) else (some (.out ())))
def m_ref02_Light : Nat → (List S_api_Node) → Option Bool
  | 0, _ => none
  | n+1, v0_l => (bif decide (250 < (((v0_l).length : Nat) : Int)) then (some false) else ((ref02_Light_L0 n v0_l n 0).bind fun o10 => match o10 with | .out _ => (some true) | .ret v => some v))

def m_ref02_kids : Nat → Int → Option Int
  | 0, _ => none
  | n+1, v0_op => (bif decide (1 ≤ v0_op) then (bif decide (v0_op ≤ 4) then (some 0) else (bif (v0_op == 5) then (some 1) else (bif decide (6 ≤ v0_op) then (bif decide (v0_op ≤ 14) then (some 2) else (some (-1))) else (some (-1))))) else (bif (v0_op == 5) then (some 1) else (bif decide (6 ≤ v0_op) then (bif decide (v0_op ≤ 14) then (some 2) else (some (-1))) else (some (-1)))))

def ref02_End_L0 (n : Nat)  (v0_l : (List S_api_Node)) : Nat → Int → Int → Option (LR Unit Int)
  | 0, _, _ => none
  | k4+1, s2, s3 => (bif decide (s3 < (((v0_l).length : Nat) : Int)) then ((idx v0_l s3).bind fun x13 => ((m_ref02_kids n x13.f_Op).bind fun y14 => (bif decide (y14 < 0) then (some (.ret (-1))) else (bif ((IntKind.i64.wrap ((IntKind.i64.wrap (s2 - 1)) + y14)) == 0) then (some (.ret (IntKind.i64.wrap (s3 + 1)))) else (ref02_End_L0 n v0_l k4 (IntKind.i64.wrap ((IntKind.i64.wrap (s2 - 1)) + y14)) (IntKind.i64.wrap (s3 + 1))))))) else (some (.out ())))
def m_ref02_End : Nat → (List S_api_Node) → Int → Option Int
  | 0, _, _ => none
  | n+1, v0_l, v1_i => (bif decide (v1_i < 0) then (some (-1)) else ((ref02_End_L0 n v0_l n 1 v1_i).bind fun o11 => match o11 with | .out _ => (some (-1)) | .ret v => some v))

def ref02_deep_L0 (n : Nat) (rec_ref02_deep : (List S_api_Node) → Int → Option Int) (v0_l : (List S_api_Node)) (v1_i : Int) : Nat → Int → Int → Int → Option (LR Int Int)
  | 0, _, _, _ => none
  | k4+1, s1, s2, s3 => ((idx v0_l v1_i).bind fun x12 => ((m_ref02_kids n x12.f_Op).bind fun y13 => (bif decide (s3 < y13) then ((rec_ref02_deep v0_l s2).bind fun y16 => ((m_ref02_End n v0_l s2).bind fun y18 => (ref02_deep_L0 n rec_ref02_deep v0_l v1_i k4 (if s1 < (IntKind.i64.wrap (1 + y16)) then (IntKind.i64.wrap (1 + y16)) else s1) y18 (IntKind.i64.wrap (s3 + 1))))) else (some (.out s1)))))
def m_ref02_deep : Nat → (List S_api_Node) → Int → Option Int
  | 0, _, _ => none
  | n+1, v0_l, v1_i => ((ref02_deep_L0 n (m_ref02_deep n) v0_l v1_i n 0 (IntKind.i64.wrap (v1_i + 1)) 0).bind fun o11 => match o11 with | .out x21 => (some x21) | .ret v => some v)

def m_ref02_node : Nat → S_api_Node → Option Bool
  | 0, _ => none
  | n+1, v0_x => (bif decide (v0_x.f_At < 0) then (some false) else (bif (v0_x.f_Op == 1) then (bif decide (0 ≤ v0_x.f_N) then (bif decide (v0_x.f_N ≤ 9999) then (bif (v0_x.f_Name == ([] : List UInt8)) then (some (v0_x.f_In == ([] : List UInt8))) else (some false)) else (some false)) else (some false)) else (bif (v0_x.f_Op == 2) then (bif (v0_x.f_N == 0) then ((m_ref01_Name n v0_x.f_Name).bind fun y8 => (bif y8 then (some (v0_x.f_In == ([] : List UInt8))) else (some false))) else (some false)) else (bif (v0_x.f_Op == 3) then (bif (v0_x.f_N == 0) then ((m_ref01_Name n v0_x.f_Name).bind fun y13 => (bif y13 then (some (v0_x.f_In == ([] : List UInt8))) else (some false))) else (some false)) else (bif (v0_x.f_Op == 4) then (bif (v0_x.f_N == 0) then ((m_ref01_Name n v0_x.f_Name).bind fun y18 => (bif y18 then ((m_ref01_Name n v0_x.f_In).bind fun y21 => (some y21)) else (some false))) else (some false)) else (bif (v0_x.f_N == 0) then (bif (v0_x.f_Name == ([] : List UInt8)) then (some (v0_x.f_In == ([] : List UInt8))) else (some false)) else (some false)))))))

def ref02_Right_L0 (n : Nat)  (v0_l : (List S_api_Node)) : Nat → Int → Option (LR Unit Bool)
  | 0, _ => none
  | k7+1, s6 => (bif decide (s6 < (((v0_l).length : Nat) : Int)) then ((idx v0_l s6).bind fun x16 => ((m_ref02_node n x16).bind fun y17 => (bif y17 then (ref02_Right_L0 n v0_l k7 (IntKind.i64.wrap (s6 + 1))) else (some (.ret false))))) else (some (.out ())))
def m_ref02_Right : Nat → (List S_api_Node) → Option Bool
  | 0, _ => none
  | n+1, v0_l => (bif decide (200 < (((v0_l).length : Nat) : Int)) then (some false) else (bif ((((v0_l).length : Nat) : Int) == 0) then (some false) else ((m_ref02_End n v0_l 0).bind fun y3 => (bif (y3 != (((v0_l).length : Nat) : Int)) then (some false) else ((ref02_Right_L0 n v0_l n 0).bind fun o14 => match o14 with | .out _ => ((m_ref02_deep n v0_l 0).bind fun y21 => (some (decide (y21 ≤ 30)))) | .ret v => some v)))))

def m_expr_kids : Nat → Int → Option Int
  | 0, _ => none
  | n+1, v0_op => (bif decide (1 ≤ v0_op) then (bif decide (v0_op ≤ 4) then (some 0) else (bif (v0_op == 5) then (some 1) else (bif decide (6 ≤ v0_op) then (bif decide (v0_op ≤ 14) then (some 2) else (some (-1))) else (some (-1))))) else (bif (v0_op == 5) then (some 1) else (bif decide (6 ≤ v0_op) then (bif decide (v0_op ≤ 14) then (some 2) else (some (-1))) else (some (-1)))))

def expr_End_L0 (n : Nat)  (v0_l : (List S_api_Node)) : Nat → Int → Int → Option (LR Unit Int)
  | 0, _, _ => none
  | k4+1, s2, s3 => (bif decide (s2 < (((v0_l).length : Nat) : Int)) then ((idx v0_l s2).bind fun x13 => ((m_expr_kids n x13.f_Op).bind fun y14 => (bif decide (y14 < 0) then (some (.ret (-1))) else (bif ((IntKind.i64.wrap (s3 + (IntKind.i64.wrap (y14 - 1)))) == 0) then (some (.ret (IntKind.i64.wrap (s2 + 1)))) else (expr_End_L0 n v0_l k4 (IntKind.i64.wrap (s2 + 1)) (IntKind.i64.wrap (s3 + (IntKind.i64.wrap (y14 - 1))))))))) else (some (.out ())))
def m_expr_End : Nat → (List S_api_Node) → Int → Option Int
  | 0, _, _ => none
  | n+1, v0_l, v1_i => (bif decide (v1_i < 0) then (some (-1)) else ((expr_End_L0 n v0_l n v1_i 1).bind fun o11 => match o11 with | .out _ => (some (-1)) | .ret v => some v))

def expr_depth_L1 (n : Nat)  : Nat → (List Int) → Option (LR (List Int) Int)
  | 0, _ => none
  | k21+1, s20 => (bif decide (0 < (((s20).length : Nat) : Int)) then ((idx s20 (IntKind.i64.wrap ((((s20).length : Nat) : Int) - 1))).bind fun x30 => ((idx s20 (IntKind.i64.wrap ((((s20).length : Nat) : Int) - 1))).bind fun x31 => ((idx (List.set s20 (IntKind.i64.wrap ((((s20).length : Nat) : Int) - 1)).toNat (IntKind.i64.wrap (x30 - 1))) (IntKind.i64.wrap ((((s20).length : Nat) : Int) - 1))).bind fun x33 => (bif decide (0 < x33) then (some (.out (List.set s20 (IntKind.i64.wrap ((((s20).length : Nat) : Int) - 1)).toNat (IntKind.i64.wrap (x30 - 1))))) else (bif (decide (0 ≤ (IntKind.i64.wrap ((((s20).length : Nat) : Int) - 1))) && decide ((IntKind.i64.wrap ((((s20).length : Nat) : Int) - 1)) ≤ ((((List.set s20 (IntKind.i64.wrap ((((s20).length : Nat) : Int) - 1)).toNat (IntKind.i64.wrap (x30 - 1)))).length : Nat) : Int))) then (expr_depth_L1 n k21 (List.take ((IntKind.i64.wrap ((((s20).length : Nat) : Int) - 1)).toNat) (List.set s20 (IntKind.i64.wrap ((((s20).length : Nat) : Int) - 1)).toNat (IntKind.i64.wrap (x30 - 1))))) else none))))) else (some (.out s20)))
def expr_depth_L0 (n : Nat)  (v0_l : (List S_api_Node)) : Nat → Int → Int → (List Int) → Option (LR (Int × (List Int)) Int)
  | 0, _, _, _ => none
  | k4+1, s1, s2, s3 => (bif decide (s2 < (((v0_l).length : Nat) : Int)) then ((idx v0_l s2).bind fun x13 => ((m_expr_kids n x13.f_Op).bind fun y14 => (bif decide (0 < y14) then (bif decide (((s3).length + 1) * 9 ≤ 140737488355328) then (expr_depth_L0 n v0_l k4 (if s1 < (((s3).length : Nat) : Int) then (((s3).length : Nat) : Int) else s1) (IntKind.i64.wrap (s2 + 1)) (s3 ++ ([y14] : List Int))) else none) else ((expr_depth_L1 n n s3).bind fun o28 => match o28 with | .out x38 => (expr_depth_L0 n v0_l k4 (if s1 < (((s3).length : Nat) : Int) then (((s3).length : Nat) : Int) else s1) (IntKind.i64.wrap (s2 + 1)) x38) | .ret v => some (.ret v))))) else (some (.out (s1, s3))))
def m_expr_depth : Nat → (List S_api_Node) → Option Int
  | 0, _ => none
  | n+1, v0_l => ((expr_depth_L0 n v0_l n 0 0 ([] : List Int)).bind fun o11 => match o11 with | .out (x41, x42) => (some x41) | .ret v => some v)

def m_expr_fits : Nat → S_api_Node → Option Bool
  | 0, _ => none
  | n+1, v0_x => (bif decide (v0_x.f_At < 0) then (some false) else (bif (v0_x.f_Op == 1) then (bif ((v0_x.f_Op == v0_x.f_Op) && ((v0_x.f_N == v0_x.f_N) && ((v0_x.f_Name == ([] : List UInt8)) && ((v0_x.f_In == ([] : List UInt8)) && ((v0_x.f_At == v0_x.f_At) && true))))) then (bif decide (0 ≤ v0_x.f_N) then (some (decide (v0_x.f_N ≤ 9999))) else (some false)) else (some false)) else (bif (v0_x.f_Op == 4) then ((m_scan_Name n v0_x.f_In).bind fun y7 => (bif y7 then (bif ((v0_x.f_Op == v0_x.f_Op) && ((v0_x.f_N == 0) && ((v0_x.f_Name == v0_x.f_Name) && ((v0_x.f_In == v0_x.f_In) && ((v0_x.f_At == v0_x.f_At) && true))))) then ((m_scan_Name n v0_x.f_Name).bind fun y11 => (some y11)) else (some false)) else (some false))) else (bif (v0_x.f_Op == 2) then (bif ((v0_x.f_Op == v0_x.f_Op) && ((v0_x.f_N == 0) && ((v0_x.f_Name == v0_x.f_Name) && ((v0_x.f_In == ([] : List UInt8)) && ((v0_x.f_At == v0_x.f_At) && true))))) then ((m_scan_Name n v0_x.f_Name).bind fun y16 => (some y16)) else (some false)) else (bif (v0_x.f_Op == 3) then (bif ((v0_x.f_Op == v0_x.f_Op) && ((v0_x.f_N == 0) && ((v0_x.f_Name == v0_x.f_Name) && ((v0_x.f_In == ([] : List UInt8)) && ((v0_x.f_At == v0_x.f_At) && true))))) then ((m_scan_Name n v0_x.f_Name).bind fun y21 => (some y21)) else (some false)) else (some ((v0_x.f_Op == v0_x.f_Op) && ((v0_x.f_N == 0) && ((v0_x.f_Name == ([] : List UInt8)) && ((v0_x.f_In == ([] : List UInt8)) && ((v0_x.f_At == v0_x.f_At) && true)))))))))))

def expr_Right_L0 (n : Nat)  (v0_l : (List S_api_Node)) : Nat → Int → Option (LR Unit Bool)
  | 0, _ => none
  | k7+1, s6 => (bif decide (s6 < (((v0_l).length : Nat) : Int)) then ((idx v0_l s6).bind fun x16 => ((m_expr_fits n x16).bind fun y17 => (bif y17 then (expr_Right_L0 n v0_l k7 (IntKind.i64.wrap (s6 + 1))) else (some (.ret false))))) else (some (.out ())))
def m_expr_Right : Nat → (List S_api_Node) → Option Bool
  | 0, _ => none
  | n+1, v0_l => (bif ((((v0_l).length : Nat) : Int) == 0) then (some false) else (bif decide (200 < (((v0_l).length : Nat) : Int)) then (some false) else ((m_expr_End n v0_l 0).bind fun y3 => (bif (y3 != (((v0_l).length : Nat) : Int)) then (some false) else ((expr_Right_L0 n v0_l n 0).bind fun o14 => match o14 with | .out _ => ((m_expr_depth n v0_l).bind fun y21 => (some (decide (y21 ≤ 30)))) | .ret v => some v)))))

def ref03_Light_L0 (n : Nat)  (v0_l : (List S_api_Stmt)) : Nat → Int → Option (LR Unit Bool)
  | 0, _ => none
  | k3+1, s2 => (bif decide (s2 < (((v0_l).length : Nat) : Int)) then ((idx v0_l s2).bind fun x12 => (bif decide (100 < (((x12.f_Reg).length : Nat) : Int)) then (some (.ret false)) else ((idx v0_l s2).bind fun x14 => (bif decide (100 < (((x14.f_Loc).length : Nat) : Int)) then (some (.ret false)) else ((idx v0_l s2).bind fun x16 => ((m_ref02_Light n x16.f_E).bind fun y17 => (bif y17 then ((idx v0_l s2).bind fun x20 => ((m_ref02_Light n x20.f_F).bind fun y21 => (bif y21 then (ref03_Light_L0 n v0_l k3 (IntKind.i64.wrap (s2 + 1))) else (some (.ret false))))) else (some (.ret false))))))))) else (some (.out ())))
def m_ref03_Light : Nat → (List S_api_Stmt) → Option Bool
  | 0, _ => none
  | n+1, v0_l => (bif decide (60 < (((v0_l).length : Nat) : Int)) then (some false) else ((ref03_Light_L0 n v0_l n 0).bind fun o10 => match o10 with | .out _ => (some true) | .ret v => some v))

def ref04_Light_L0 (n : Nat)  (v0_p : S_api_Prog) : Nat → Int → Option (LR Unit Bool)
  | 0, _ => none
  | k5+1, s4 => (bif decide (s4 < (((v0_p.f_Locs).length : Nat) : Int)) then ((idx v0_p.f_Locs s4).bind fun x14 => (bif decide (100 < (((x14.f_Name).length : Nat) : Int)) then (some (.ret false)) else (ref04_Light_L0 n v0_p k5 (IntKind.i64.wrap (s4 + 1))))) else (some (.out ())))
def ref04_Light_L2 (n : Nat)  (x27 : S_api_Thread) : Nat → Int → Option (LR Unit Bool)
  | 0, _ => none
  | k34+1, s33 => (bif decide (s33 < (((x27.f_Regs).length : Nat) : Int)) then ((idx x27.f_Regs s33).bind fun x43 => (bif decide (100 < (((x43).length : Nat) : Int)) then (some (.ret false)) else (ref04_Light_L2 n x27 k34 (IntKind.i64.wrap (s33 + 1))))) else (some (.out ())))
def ref04_Light_L1 (n : Nat)  (v0_p : S_api_Prog) : Nat → Int → Option (LR Unit Bool)
  | 0, _ => none
  | k18+1, s17 => (bif decide (s17 < (((v0_p.f_Threads).length : Nat) : Int)) then ((idx v0_p.f_Threads s17).bind fun x27 => (bif decide (100 < (((x27.f_Name).length : Nat) : Int)) then (some (.ret false)) else (bif decide (20 < (((x27.f_Regs).length : Nat) : Int)) then (some (.ret false)) else ((m_ref03_Light n x27.f_Body).bind fun y30 => (bif y30 then ((ref04_Light_L2 n x27 n 0).bind fun o41 => match o41 with | .out _ => (ref04_Light_L1 n v0_p k18 (IntKind.i64.wrap (s17 + 1))) | .ret v => some (.ret v)) else (some (.ret false))))))) else (some (.out ())))
def ref04_Light_L3 (n : Nat)  (v0_p : S_api_Prog) : Nat → Int → Option (LR Unit Bool)
  | 0, _ => none
  | k49+1, s48 => (bif decide (s48 < (((v0_p.f_Claims).length : Nat) : Int)) then ((idx v0_p.f_Claims s48).bind fun x58 => ((m_ref02_Light n x58.f_E).bind fun y59 => (bif y59 then (ref04_Light_L3 n v0_p k49 (IntKind.i64.wrap (s48 + 1))) else (some (.ret false))))) else (some (.out ())))
def m_ref04_Light : Nat → S_api_Prog → Option Bool
  | 0, _ => none
  | n+1, v0_p => (bif decide (20 < (((v0_p.f_Locs).length : Nat) : Int)) then (some false) else (bif decide (8 < (((v0_p.f_Threads).length : Nat) : Int)) then (some false) else (bif decide (12 < (((v0_p.f_Claims).length : Nat) : Int)) then (some false) else ((ref04_Light_L0 n v0_p n 0).bind fun o12 => match o12 with | .out _ => ((ref04_Light_L1 n v0_p n 0).bind fun o25 => match o25 with | .out _ => ((ref04_Light_L3 n v0_p n 0).bind fun o56 => match o56 with | .out _ => (some true) | .ret v => some v) | .ret v => some v) | .ret v => some v))))

def ref05_Index_L0 (n : Nat)  (v0_l : (List (List UInt8))) (v1_name : (List UInt8)) : Nat → Int → Option (LR Unit Int)
  | 0, _ => none
  | k2+1, s1 => (bif decide (s1 < (((v0_l).length : Nat) : Int)) then ((idx v0_l s1).bind fun x11 => (bif (x11 == v1_name) then (some (.ret s1)) else (ref05_Index_L0 n v0_l v1_name k2 (IntKind.i64.wrap (s1 + 1))))) else (some (.out ())))
def m_ref05_Index : Nat → (List (List UInt8)) → (List UInt8) → Option Int
  | 0, _, _ => none
  | n+1, v0_l, v1_name => ((ref05_Index_L0 n v0_l v1_name n 0).bind fun o9 => match o9 with | .out _ => (some (-1)) | .ret v => some v)

def ref05_Locs_L0 (n : Nat)  (v0_p : S_api_Prog) : Nat → Int → (List (List UInt8)) → Option (LR (List (List UInt8)) (List (List UInt8)))
  | 0, _, _ => none
  | k3+1, s1, s2 => (bif decide (s1 < (((v0_p.f_Locs).length : Nat) : Int)) then ((idx v0_p.f_Locs s1).bind fun x12 => (bif decide (((s2).length + 1) * 17 ≤ 140737488355328) then (ref05_Locs_L0 n v0_p k3 (IntKind.i64.wrap (s1 + 1)) (s2 ++ ([x12.f_Name] : List (List UInt8)))) else none)) else (some (.out s2)))
def m_ref05_Locs : Nat → S_api_Prog → Option (List (List UInt8))
  | 0, _ => none
  | n+1, v0_p => ((ref05_Locs_L0 n v0_p n 0 ([] : List (List UInt8))).bind fun o10 => match o10 with | .out x17 => (some x17) | .ret v => some v)

def ref05_Threads_L0 (n : Nat)  (v0_p : S_api_Prog) : Nat → Int → (List (List UInt8)) → Option (LR (List (List UInt8)) (List (List UInt8)))
  | 0, _, _ => none
  | k3+1, s1, s2 => (bif decide (s1 < (((v0_p.f_Threads).length : Nat) : Int)) then ((idx v0_p.f_Threads s1).bind fun x12 => (bif decide (((s2).length + 1) * 17 ≤ 140737488355328) then (ref05_Threads_L0 n v0_p k3 (IntKind.i64.wrap (s1 + 1)) (s2 ++ ([x12.f_Name] : List (List UInt8)))) else none)) else (some (.out s2)))
def m_ref05_Threads : Nat → S_api_Prog → Option (List (List UInt8))
  | 0, _ => none
  | n+1, v0_p => ((ref05_Threads_L0 n v0_p n 0 ([] : List (List UInt8))).bind fun o10 => match o10 with | .out x17 => (some x17) | .ret v => some v)

def legal_Index_L0 (n : Nat)  (v0_l : (List (List UInt8))) (v1_name : (List UInt8)) : Nat → Int → Option (LR Unit Int)
  | 0, _ => none
  | k2+1, s1 => (bif decide (s1 < (((v0_l).length : Nat) : Int)) then ((idx v0_l s1).bind fun x11 => (bif (x11 == v1_name) then (some (.ret s1)) else (legal_Index_L0 n v0_l v1_name k2 (IntKind.i64.wrap (s1 + 1))))) else (some (.out ())))
def m_legal_Index : Nat → (List (List UInt8)) → (List UInt8) → Option Int
  | 0, _, _ => none
  | n+1, v0_l, v1_name => ((legal_Index_L0 n v0_l v1_name n 0).bind fun o9 => match o9 with | .out _ => (some (-1)) | .ret v => some v)

def legal_Locs_L0 (n : Nat)  (v0_p : S_api_Prog) : Nat → Int → (List (List UInt8)) → Option (LR (List (List UInt8)) (List (List UInt8)))
  | 0, _, _ => none
  | k3+1, s1, s2 => (bif decide (s1 < (((v0_p.f_Locs).length : Nat) : Int)) then ((idx v0_p.f_Locs s1).bind fun x12 => (bif decide (((s2).length + 1) * 17 ≤ 140737488355328) then (legal_Locs_L0 n v0_p k3 (IntKind.i64.wrap (s1 + 1)) (s2 ++ ([x12.f_Name] : List (List UInt8)))) else none)) else (some (.out s2)))
def m_legal_Locs : Nat → S_api_Prog → Option (List (List UInt8))
  | 0, _ => none
  | n+1, v0_p => ((legal_Locs_L0 n v0_p n 0 ([] : List (List UInt8))).bind fun o10 => match o10 with | .out x17 => (some x17) | .ret v => some v)

inductive R_ref06_made where
  | c0 (x : (List OpS))
  | c1 (x : (Nat × Nat))
def m_ref06_made : Nat → (List S_api_Node) → Int → (List OpS) → Option R_ref06_made
  | 0, _, _, _ => none
  | n+1, v0_l, v2_i, o0_a => ((idx v0_l v2_i).bind fun x1 => (bif decide (x1.f_Op ≤ 4) then (bif (decide (0 ≤ (IntKind.i64.wrap (v2_i + 1))) && decide ((IntKind.i64.wrap (v2_i + 1)) ≤ (((o0_a).length : Nat) : Int)) && decide (0 ≤ v2_i) && decide (v2_i ≤ (IntKind.i64.wrap (v2_i + 1)))) then (some (R_ref06_made.c1 ((v2_i).toNat, (IntKind.i64.wrap (v2_i + 1)).toNat - (v2_i).toNat))) else none) else (((m_ref06_made n) v0_l (IntKind.i64.wrap (v2_i + 1)) o0_a).bind fun y4 => (match y4 with | .c0 y6 => (bif decide ((y6).length * 25 ≤ 140737488355328) then (bif (x1.f_Op != 5) then ((m_ref02_End n v0_l (IntKind.i64.wrap (v2_i + 1))).bind fun y10 => (((m_ref06_made n) v0_l y10 o0_a).bind fun y12 => (match y12 with | .c0 y14 => (bif decide (((y6).length + (y14).length) * 25 ≤ 140737488355328) then (bif decide ((((y6 ++ y14)).length + 1) * 25 ≤ 140737488355328) then (some (R_ref06_made.c0 ((y6 ++ y14) ++ ([(⟨x1.f_Op, 0, 0⟩ : OpS)] : List OpS)))) else none) else none) | .c1 y15 => (bif decide (((y6).length + ((List.take ((y15).2) (List.drop ((y15).1) o0_a))).length) * 25 ≤ 140737488355328) then (bif decide ((((y6 ++ (List.take ((y15).2) (List.drop ((y15).1) o0_a)))).length + 1) * 25 ≤ 140737488355328) then (some (R_ref06_made.c0 ((y6 ++ (List.take ((y15).2) (List.drop ((y15).1) o0_a))) ++ ([(⟨x1.f_Op, 0, 0⟩ : OpS)] : List OpS)))) else none) else none)))) else (bif decide (((y6).length + 1) * 25 ≤ 140737488355328) then (some (R_ref06_made.c0 (y6 ++ ([(⟨x1.f_Op, 0, 0⟩ : OpS)] : List OpS)))) else none)) else none) | .c1 y7 => (bif decide (((List.take ((y7).2) (List.drop ((y7).1) o0_a))).length * 25 ≤ 140737488355328) then (bif (x1.f_Op != 5) then ((m_ref02_End n v0_l (IntKind.i64.wrap (v2_i + 1))).bind fun y35 => (((m_ref06_made n) v0_l y35 o0_a).bind fun y37 => (match y37 with | .c0 y39 => (bif decide ((((List.take ((y7).2) (List.drop ((y7).1) o0_a))).length + (y39).length) * 25 ≤ 140737488355328) then (bif decide (((((List.take ((y7).2) (List.drop ((y7).1) o0_a)) ++ y39)).length + 1) * 25 ≤ 140737488355328) then (some (R_ref06_made.c0 (((List.take ((y7).2) (List.drop ((y7).1) o0_a)) ++ y39) ++ ([(⟨x1.f_Op, 0, 0⟩ : OpS)] : List OpS)))) else none) else none) | .c1 y40 => (bif decide ((((List.take ((y7).2) (List.drop ((y7).1) o0_a))).length + ((List.take ((y40).2) (List.drop ((y40).1) o0_a))).length) * 25 ≤ 140737488355328) then (bif decide (((((List.take ((y7).2) (List.drop ((y7).1) o0_a)) ++ (List.take ((y40).2) (List.drop ((y40).1) o0_a)))).length + 1) * 25 ≤ 140737488355328) then (some (R_ref06_made.c0 (((List.take ((y7).2) (List.drop ((y7).1) o0_a)) ++ (List.take ((y40).2) (List.drop ((y40).1) o0_a))) ++ ([(⟨x1.f_Op, 0, 0⟩ : OpS)] : List OpS)))) else none) else none)))) else (bif decide ((((List.take ((y7).2) (List.drop ((y7).1) o0_a))).length + 1) * 25 ≤ 140737488355328) then (some (R_ref06_made.c0 ((List.take ((y7).2) (List.drop ((y7).1) o0_a)) ++ ([(⟨x1.f_Op, 0, 0⟩ : OpS)] : List OpS)))) else none)) else none)))))

def ref06_Claim_L0 (n : Nat)  (v0_l : (List S_api_Node)) (v1_p : S_api_Prog) : Nat → Int → (List OpS) → Option (LR (List OpS) ((List OpS) × Bool))
  | 0, _, _ => none
  | k8+1, s6, s7 => (bif decide (s6 < (((v0_l).length : Nat) : Int)) then ((idx v0_l s6).bind fun x17 => (bif (x17.f_Op == 1) then ((idx v0_l s6).bind fun x19 => ((idx s7 s6).bind fun x20 => (ref06_Claim_L0 n v0_l v1_p k8 (IntKind.i64.wrap (s6 + 1)) (List.set s7 (s6).toNat (⟨1, x19.f_N, 0⟩ : OpS))))) else (bif (x17.f_Op == 2) then (some (.ret (([] : List OpS), false))) else (bif (x17.f_Op == 3) then ((m_ref05_Locs n v1_p).bind fun y24 => ((idx v0_l s6).bind fun x26 => ((m_ref05_Index n y24 x26.f_Name).bind fun y27 => ((idx s7 s6).bind fun x29 => ((idx (List.set s7 (s6).toNat (⟨3, y27, 0⟩ : OpS)) s6).bind fun x31 => (bif decide (x31.n < 0) then (some (.ret (([] : List OpS), false))) else (ref06_Claim_L0 n v0_l v1_p k8 (IntKind.i64.wrap (s6 + 1)) (List.set s7 (s6).toNat (⟨3, y27, 0⟩ : OpS))))))))) else (bif (x17.f_Op == 4) then ((m_ref05_Threads n v1_p).bind fun y34 => ((idx v0_l s6).bind fun x36 => ((m_ref05_Index n y34 x36.f_In).bind fun y37 => (bif decide (y37 < 0) then (some (.ret (([] : List OpS), false))) else ((idx v1_p.f_Threads y37).bind fun x40 => ((idx v0_l s6).bind fun x41 => ((m_ref05_Index n x40.f_Regs x41.f_Name).bind fun y42 => ((idx s7 s6).bind fun x44 => ((idx (List.set s7 (s6).toNat (⟨4, y42, y37⟩ : OpS)) s6).bind fun x46 => (bif decide (x46.n < 0) then (some (.ret (([] : List OpS), false))) else (ref06_Claim_L0 n v0_l v1_p k8 (IntKind.i64.wrap (s6 + 1)) (List.set s7 (s6).toNat (⟨4, y42, y37⟩ : OpS))))))))))))) else (ref06_Claim_L0 n v0_l v1_p k8 (IntKind.i64.wrap (s6 + 1)) s7)))))) else (some (.out s7)))
def m_ref06_Claim : Nat → (List S_api_Node) → S_api_Prog → Option ((List OpS) × Bool)
  | 0, _, _ => none
  | n+1, v0_l, v1_p => ((m_ref02_Right n v0_l).bind fun y1 => (bif y1 then (bif (decide (0 ≤ (((v0_l).length : Nat) : Int)) && decide ((24 : Int) * ((((v0_l).length : Nat) : Int)) ≤ 140737488355328)) then ((ref06_Claim_L0 n v0_l v1_p n 0 (List.replicate ((((v0_l).length : Nat) : Int)).toNat (⟨0, 0, 0⟩ : OpS) : List OpS)).bind fun o15 => match o15 with | .out x49 => ((m_ref06_made n v0_l 0 x49).bind fun y50 => (match y50 with | .c0 y52 => (some (y52, true)) | .c1 y53 => (some ((List.take ((y53).2) (List.drop ((y53).1) x49)), true)))) | .ret v => some v) else none) else (some (([] : List OpS), false))))

def ref06_Same_L0 (n : Nat)  (v0_a : (List OpS)) (v1_b : (List OpS)) : Nat → Int → Option (LR Unit Bool)
  | 0, _ => none
  | k3+1, s2 => (bif decide (s2 < (((v0_a).length : Nat) : Int)) then ((idx v0_a s2).bind fun x12 => ((idx v1_b s2).bind fun x13 => (bif ((x12.op == x13.op) && ((x12.n == x13.n) && ((x12.t == x13.t) && true))) then (ref06_Same_L0 n v0_a v1_b k3 (IntKind.i64.wrap (s2 + 1))) else (some (.ret false))))) else (some (.out ())))
def m_ref06_Same : Nat → (List OpS) → (List OpS) → Option Bool
  | 0, _, _ => none
  | n+1, v0_a, v1_b => (bif ((((v0_a).length : Nat) : Int) != (((v1_b).length : Nat) : Int)) then (some false) else ((ref06_Same_L0 n v0_a v1_b n 0).bind fun o10 => match o10 with | .out _ => (some true) | .ret v => some v))

def ref06_Thread_L0 (n : Nat)  (v0_l : (List S_api_Node)) (v1_regs : (List (List UInt8))) : Nat → Int → (List OpS) → Option (LR (List OpS) ((List OpS) × Bool))
  | 0, _, _ => none
  | k8+1, s6, s7 => (bif decide (s6 < (((v0_l).length : Nat) : Int)) then ((idx v0_l s6).bind fun x17 => (bif (x17.f_Op == 1) then ((idx v0_l s6).bind fun x19 => ((idx s7 s6).bind fun x20 => (ref06_Thread_L0 n v0_l v1_regs k8 (IntKind.i64.wrap (s6 + 1)) (List.set s7 (s6).toNat (⟨1, x19.f_N, 0⟩ : OpS))))) else (bif (x17.f_Op == 2) then ((idx v0_l s6).bind fun x23 => ((m_ref05_Index n v1_regs x23.f_Name).bind fun y24 => ((idx s7 s6).bind fun x26 => ((idx (List.set s7 (s6).toNat (⟨2, y24, 0⟩ : OpS)) s6).bind fun x28 => (bif decide (x28.n < 0) then (some (.ret (([] : List OpS), false))) else (ref06_Thread_L0 n v0_l v1_regs k8 (IntKind.i64.wrap (s6 + 1)) (List.set s7 (s6).toNat (⟨2, y24, 0⟩ : OpS)))))))) else (bif (x17.f_Op == 3) then (some (.ret (([] : List OpS), false))) else (bif (x17.f_Op == 4) then (some (.ret (([] : List OpS), false))) else (ref06_Thread_L0 n v0_l v1_regs k8 (IntKind.i64.wrap (s6 + 1)) s7)))))) else (some (.out s7)))
def m_ref06_Thread : Nat → (List S_api_Node) → (List (List UInt8)) → Option ((List OpS) × Bool)
  | 0, _, _ => none
  | n+1, v0_l, v1_regs => ((m_ref02_Right n v0_l).bind fun y1 => (bif y1 then (bif (decide (0 ≤ (((v0_l).length : Nat) : Int)) && decide ((24 : Int) * ((((v0_l).length : Nat) : Int)) ≤ 140737488355328)) then ((ref06_Thread_L0 n v0_l v1_regs n 0 (List.replicate ((((v0_l).length : Nat) : Int)).toNat (⟨0, 0, 0⟩ : OpS) : List OpS)).bind fun o15 => match o15 with | .out x33 => ((m_ref06_made n v0_l 0 x33).bind fun y34 => (match y34 with | .c0 y36 => (some (y36, true)) | .c1 y37 => (some ((List.take ((y37).2) (List.drop ((y37).1) x33)), true)))) | .ret v => some v) else none) else (some (([] : List OpS), false))))

def code_Claim_1_L0 (n : Nat)  (v0_x : S_api_Node) (o1_Threads : (List S_api_Thread)) : Nat → Int → Option (LR Unit (OpS × Bool))
  | 0, _ => none
  | k7+1, s6 => (bif decide (s6 < (((o1_Threads).length : Nat) : Int)) then ((idx o1_Threads s6).bind fun x16 => (bif (x16.f_Name == v0_x.f_In) then ((m_legal_Index n x16.f_Regs v0_x.f_Name).bind fun y18 => (some (.ret ((⟨4, y18, s6⟩ : OpS), (y18 != (-1)))))) else (code_Claim_1_L0 n v0_x o1_Threads k7 (IntKind.i64.wrap (s6 + 1))))) else (some (.out ())))
def m_code_Claim_1 : Nat → S_api_Node → (List (List UInt8)) → Int → (List S_api_Var) → (List S_api_Thread) → (List S_api_Claim) → Option (OpS × Bool)
  | 0, _, _, _, _, _, _ => none
  | n+1, v0_x, o0, o1_Mod, o1_Locs, o1_Threads, o1_Claims => (bif (v0_x.f_Op == 1) then (some ((⟨1, v0_x.f_N, 0⟩ : OpS), true)) else (bif (v0_x.f_Op == 3) then ((m_legal_Index n o0 v0_x.f_Name).bind fun y3 => (some ((⟨3, y3, 0⟩ : OpS), (y3 != (-1))))) else (bif (v0_x.f_Op == 4) then ((code_Claim_1_L0 n v0_x o1_Threads n 0).bind fun o14 => match o14 with | .out _ => (some ((⟨0, 0, 0⟩ : OpS), false)) | .ret v => some v) else (some ((⟨0, 0, 0⟩ : OpS), false)))))

inductive R_code_of where
  | c0 (x : (Int × Bool))
  | c1 (x : (Int × Bool))
  | c2 (x : (Int × Bool))
  | c3 (x : (Int × Bool))
  | c4 (x : (Int × Bool))
  | c5 (x : (Int × Bool))
  | c6 (x : (Int × Bool))
  | c7 (x : (Int × Bool))
  | c8 (x : (Int × Bool))
  | c9 (x : (Int × Bool))
  | c10 (x : (Int × Bool))
def m_code_of : Nat → Int → Option R_code_of
  | 0, _ => none
  | n+1, v0_op => (bif decide (v0_op < 5) then (some (R_code_of.c0 (0, false))) else (bif decide (15 ≤ v0_op) then (some (R_code_of.c0 (0, false))) else (bif decide (v0_op = ((14 : Nat) : Int)) then (some (R_code_of.c1 (2, true))) else (bif decide (v0_op = ((13 : Nat) : Int)) then (some (R_code_of.c2 (2, true))) else (bif decide (v0_op = ((12 : Nat) : Int)) then (some (R_code_of.c3 (2, true))) else (bif decide (v0_op = ((11 : Nat) : Int)) then (some (R_code_of.c4 (2, true))) else (bif decide (v0_op = ((10 : Nat) : Int)) then (some (R_code_of.c5 (2, true))) else (bif decide (v0_op = ((9 : Nat) : Int)) then (some (R_code_of.c6 (2, true))) else (bif decide (v0_op = ((8 : Nat) : Int)) then (some (R_code_of.c7 (2, true))) else (bif decide (v0_op = ((7 : Nat) : Int)) then (some (R_code_of.c8 (2, true))) else (bif decide (v0_op = ((6 : Nat) : Int)) then (some (R_code_of.c9 (2, true))) else (bif decide (v0_op = ((5 : Nat) : Int)) then (some (R_code_of.c10 (1, true))) else (bif decide (v0_op = ((4 : Nat) : Int)) then (some (R_code_of.c0 (0, true))) else (bif decide (v0_op = ((3 : Nat) : Int)) then (some (R_code_of.c0 (0, true))) else (bif decide (v0_op = ((2 : Nat) : Int)) then (some (R_code_of.c0 (0, true))) else (bif decide (v0_op = ((1 : Nat) : Int)) then (some (R_code_of.c0 (0, true))) else (bif decide (v0_op = ((0 : Nat) : Int)) then (some (R_code_of.c0 (0, true))) else none)))))))))))))))))

def code_maker_node_1_L0 (n : Nat) (rec_code_maker_node_1 : Int → (List S_api_Node) → (List OpS) → Bool → (List (List UInt8)) → Int → (List S_api_Var) → (List S_api_Thread) → (List S_api_Claim) → Option (Int × (List OpS) × Bool)) (m_l : (List S_api_Node)) (o1 : (List (List UInt8))) (o2_Mod : Int) (o2_Locs : (List S_api_Var)) (o2_Threads : (List S_api_Thread)) (o2_Claims : (List S_api_Claim)) (y4 : (Int × Bool)) : Nat → Int → Int → Bool → (List OpS) → Option (LR (Int × Bool × (List OpS)) (Int × (List OpS) × Bool))
  | 0, _, _, _, _ => none
  | k20+1, s16, s17, s18, s19 => (bif decide (s17 < ((y4).1)) then ((rec_code_maker_node_1 s16 m_l s19 s18 o1 o2_Mod o2_Locs o2_Threads o2_Claims).bind fun y29 => (code_maker_node_1_L0 n rec_code_maker_node_1 m_l o1 o2_Mod o2_Locs o2_Threads o2_Claims y4 k20 ((y29).1) (IntKind.i64.wrap (s17 + 1)) ((y29).2.2) ((y29).2.1))) else (some (.out (s16, s18, s19))))
def code_maker_node_1_L1 (n : Nat) (rec_code_maker_node_1 : Int → (List S_api_Node) → (List OpS) → Bool → (List (List UInt8)) → Int → (List S_api_Var) → (List S_api_Thread) → (List S_api_Claim) → Option (Int × (List OpS) × Bool)) (m_l : (List S_api_Node)) (o1 : (List (List UInt8))) (o2_Mod : Int) (o2_Locs : (List S_api_Var)) (o2_Threads : (List S_api_Thread)) (o2_Claims : (List S_api_Claim)) (y5 : (Int × Bool)) : Nat → Int → Int → Bool → (List OpS) → Option (LR (Int × Bool × (List OpS)) (Int × (List OpS) × Bool))
  | 0, _, _, _, _ => none
  | k53+1, s49, s50, s51, s52 => (bif decide (s50 < ((y5).1)) then ((rec_code_maker_node_1 s49 m_l s52 s51 o1 o2_Mod o2_Locs o2_Threads o2_Claims).bind fun y62 => (code_maker_node_1_L1 n rec_code_maker_node_1 m_l o1 o2_Mod o2_Locs o2_Threads o2_Claims y5 k53 ((y62).1) (IntKind.i64.wrap (s50 + 1)) ((y62).2.2) ((y62).2.1))) else (some (.out (s49, s51, s52))))
def code_maker_node_1_L2 (n : Nat) (rec_code_maker_node_1 : Int → (List S_api_Node) → (List OpS) → Bool → (List (List UInt8)) → Int → (List S_api_Var) → (List S_api_Thread) → (List S_api_Claim) → Option (Int × (List OpS) × Bool)) (m_l : (List S_api_Node)) (o1 : (List (List UInt8))) (o2_Mod : Int) (o2_Locs : (List S_api_Var)) (o2_Threads : (List S_api_Thread)) (o2_Claims : (List S_api_Claim)) (y6 : (Int × Bool)) : Nat → Int → Int → Bool → (List OpS) → Option (LR (Int × Bool × (List OpS)) (Int × (List OpS) × Bool))
  | 0, _, _, _, _ => none
  | k86+1, s82, s83, s84, s85 => (bif decide (s83 < ((y6).1)) then ((rec_code_maker_node_1 s82 m_l s85 s84 o1 o2_Mod o2_Locs o2_Threads o2_Claims).bind fun y95 => (code_maker_node_1_L2 n rec_code_maker_node_1 m_l o1 o2_Mod o2_Locs o2_Threads o2_Claims y6 k86 ((y95).1) (IntKind.i64.wrap (s83 + 1)) ((y95).2.2) ((y95).2.1))) else (some (.out (s82, s84, s85))))
def code_maker_node_1_L3 (n : Nat) (rec_code_maker_node_1 : Int → (List S_api_Node) → (List OpS) → Bool → (List (List UInt8)) → Int → (List S_api_Var) → (List S_api_Thread) → (List S_api_Claim) → Option (Int × (List OpS) × Bool)) (m_l : (List S_api_Node)) (o1 : (List (List UInt8))) (o2_Mod : Int) (o2_Locs : (List S_api_Var)) (o2_Threads : (List S_api_Thread)) (o2_Claims : (List S_api_Claim)) (y7 : (Int × Bool)) : Nat → Int → Int → Bool → (List OpS) → Option (LR (Int × Bool × (List OpS)) (Int × (List OpS) × Bool))
  | 0, _, _, _, _ => none
  | k119+1, s115, s116, s117, s118 => (bif decide (s116 < ((y7).1)) then ((rec_code_maker_node_1 s115 m_l s118 s117 o1 o2_Mod o2_Locs o2_Threads o2_Claims).bind fun y128 => (code_maker_node_1_L3 n rec_code_maker_node_1 m_l o1 o2_Mod o2_Locs o2_Threads o2_Claims y7 k119 ((y128).1) (IntKind.i64.wrap (s116 + 1)) ((y128).2.2) ((y128).2.1))) else (some (.out (s115, s117, s118))))
def code_maker_node_1_L4 (n : Nat) (rec_code_maker_node_1 : Int → (List S_api_Node) → (List OpS) → Bool → (List (List UInt8)) → Int → (List S_api_Var) → (List S_api_Thread) → (List S_api_Claim) → Option (Int × (List OpS) × Bool)) (m_l : (List S_api_Node)) (o1 : (List (List UInt8))) (o2_Mod : Int) (o2_Locs : (List S_api_Var)) (o2_Threads : (List S_api_Thread)) (o2_Claims : (List S_api_Claim)) (y8 : (Int × Bool)) : Nat → Int → Int → Bool → (List OpS) → Option (LR (Int × Bool × (List OpS)) (Int × (List OpS) × Bool))
  | 0, _, _, _, _ => none
  | k152+1, s148, s149, s150, s151 => (bif decide (s149 < ((y8).1)) then ((rec_code_maker_node_1 s148 m_l s151 s150 o1 o2_Mod o2_Locs o2_Threads o2_Claims).bind fun y161 => (code_maker_node_1_L4 n rec_code_maker_node_1 m_l o1 o2_Mod o2_Locs o2_Threads o2_Claims y8 k152 ((y161).1) (IntKind.i64.wrap (s149 + 1)) ((y161).2.2) ((y161).2.1))) else (some (.out (s148, s150, s151))))
def code_maker_node_1_L5 (n : Nat) (rec_code_maker_node_1 : Int → (List S_api_Node) → (List OpS) → Bool → (List (List UInt8)) → Int → (List S_api_Var) → (List S_api_Thread) → (List S_api_Claim) → Option (Int × (List OpS) × Bool)) (m_l : (List S_api_Node)) (o1 : (List (List UInt8))) (o2_Mod : Int) (o2_Locs : (List S_api_Var)) (o2_Threads : (List S_api_Thread)) (o2_Claims : (List S_api_Claim)) (y9 : (Int × Bool)) : Nat → Int → Int → Bool → (List OpS) → Option (LR (Int × Bool × (List OpS)) (Int × (List OpS) × Bool))
  | 0, _, _, _, _ => none
  | k185+1, s181, s182, s183, s184 => (bif decide (s182 < ((y9).1)) then ((rec_code_maker_node_1 s181 m_l s184 s183 o1 o2_Mod o2_Locs o2_Threads o2_Claims).bind fun y194 => (code_maker_node_1_L5 n rec_code_maker_node_1 m_l o1 o2_Mod o2_Locs o2_Threads o2_Claims y9 k185 ((y194).1) (IntKind.i64.wrap (s182 + 1)) ((y194).2.2) ((y194).2.1))) else (some (.out (s181, s183, s184))))
def code_maker_node_1_L6 (n : Nat) (rec_code_maker_node_1 : Int → (List S_api_Node) → (List OpS) → Bool → (List (List UInt8)) → Int → (List S_api_Var) → (List S_api_Thread) → (List S_api_Claim) → Option (Int × (List OpS) × Bool)) (m_l : (List S_api_Node)) (o1 : (List (List UInt8))) (o2_Mod : Int) (o2_Locs : (List S_api_Var)) (o2_Threads : (List S_api_Thread)) (o2_Claims : (List S_api_Claim)) (y10 : (Int × Bool)) : Nat → Int → Int → Bool → (List OpS) → Option (LR (Int × Bool × (List OpS)) (Int × (List OpS) × Bool))
  | 0, _, _, _, _ => none
  | k218+1, s214, s215, s216, s217 => (bif decide (s215 < ((y10).1)) then ((rec_code_maker_node_1 s214 m_l s217 s216 o1 o2_Mod o2_Locs o2_Threads o2_Claims).bind fun y227 => (code_maker_node_1_L6 n rec_code_maker_node_1 m_l o1 o2_Mod o2_Locs o2_Threads o2_Claims y10 k218 ((y227).1) (IntKind.i64.wrap (s215 + 1)) ((y227).2.2) ((y227).2.1))) else (some (.out (s214, s216, s217))))
def code_maker_node_1_L7 (n : Nat) (rec_code_maker_node_1 : Int → (List S_api_Node) → (List OpS) → Bool → (List (List UInt8)) → Int → (List S_api_Var) → (List S_api_Thread) → (List S_api_Claim) → Option (Int × (List OpS) × Bool)) (m_l : (List S_api_Node)) (o1 : (List (List UInt8))) (o2_Mod : Int) (o2_Locs : (List S_api_Var)) (o2_Threads : (List S_api_Thread)) (o2_Claims : (List S_api_Claim)) (y11 : (Int × Bool)) : Nat → Int → Int → Bool → (List OpS) → Option (LR (Int × Bool × (List OpS)) (Int × (List OpS) × Bool))
  | 0, _, _, _, _ => none
  | k251+1, s247, s248, s249, s250 => (bif decide (s248 < ((y11).1)) then ((rec_code_maker_node_1 s247 m_l s250 s249 o1 o2_Mod o2_Locs o2_Threads o2_Claims).bind fun y260 => (code_maker_node_1_L7 n rec_code_maker_node_1 m_l o1 o2_Mod o2_Locs o2_Threads o2_Claims y11 k251 ((y260).1) (IntKind.i64.wrap (s248 + 1)) ((y260).2.2) ((y260).2.1))) else (some (.out (s247, s249, s250))))
def code_maker_node_1_L8 (n : Nat) (rec_code_maker_node_1 : Int → (List S_api_Node) → (List OpS) → Bool → (List (List UInt8)) → Int → (List S_api_Var) → (List S_api_Thread) → (List S_api_Claim) → Option (Int × (List OpS) × Bool)) (m_l : (List S_api_Node)) (o1 : (List (List UInt8))) (o2_Mod : Int) (o2_Locs : (List S_api_Var)) (o2_Threads : (List S_api_Thread)) (o2_Claims : (List S_api_Claim)) (y12 : (Int × Bool)) : Nat → Int → Int → Bool → (List OpS) → Option (LR (Int × Bool × (List OpS)) (Int × (List OpS) × Bool))
  | 0, _, _, _, _ => none
  | k284+1, s280, s281, s282, s283 => (bif decide (s281 < ((y12).1)) then ((rec_code_maker_node_1 s280 m_l s283 s282 o1 o2_Mod o2_Locs o2_Threads o2_Claims).bind fun y293 => (code_maker_node_1_L8 n rec_code_maker_node_1 m_l o1 o2_Mod o2_Locs o2_Threads o2_Claims y12 k284 ((y293).1) (IntKind.i64.wrap (s281 + 1)) ((y293).2.2) ((y293).2.1))) else (some (.out (s280, s282, s283))))
def code_maker_node_1_L9 (n : Nat) (rec_code_maker_node_1 : Int → (List S_api_Node) → (List OpS) → Bool → (List (List UInt8)) → Int → (List S_api_Var) → (List S_api_Thread) → (List S_api_Claim) → Option (Int × (List OpS) × Bool)) (m_l : (List S_api_Node)) (o1 : (List (List UInt8))) (o2_Mod : Int) (o2_Locs : (List S_api_Var)) (o2_Threads : (List S_api_Thread)) (o2_Claims : (List S_api_Claim)) (y13 : (Int × Bool)) : Nat → Int → Int → Bool → (List OpS) → Option (LR (Int × Bool × (List OpS)) (Int × (List OpS) × Bool))
  | 0, _, _, _, _ => none
  | k317+1, s313, s314, s315, s316 => (bif decide (s314 < ((y13).1)) then ((rec_code_maker_node_1 s313 m_l s316 s315 o1 o2_Mod o2_Locs o2_Threads o2_Claims).bind fun y326 => (code_maker_node_1_L9 n rec_code_maker_node_1 m_l o1 o2_Mod o2_Locs o2_Threads o2_Claims y13 k317 ((y326).1) (IntKind.i64.wrap (s314 + 1)) ((y326).2.2) ((y326).2.1))) else (some (.out (s313, s315, s316))))
def code_maker_node_1_L10 (n : Nat) (rec_code_maker_node_1 : Int → (List S_api_Node) → (List OpS) → Bool → (List (List UInt8)) → Int → (List S_api_Var) → (List S_api_Thread) → (List S_api_Claim) → Option (Int × (List OpS) × Bool)) (m_l : (List S_api_Node)) (o1 : (List (List UInt8))) (o2_Mod : Int) (o2_Locs : (List S_api_Var)) (o2_Threads : (List S_api_Thread)) (o2_Claims : (List S_api_Claim)) (y14 : (Int × Bool)) : Nat → Int → Int → Bool → (List OpS) → Option (LR (Int × Bool × (List OpS)) (Int × (List OpS) × Bool))
  | 0, _, _, _, _ => none
  | k350+1, s346, s347, s348, s349 => (bif decide (s347 < ((y14).1)) then ((rec_code_maker_node_1 s346 m_l s349 s348 o1 o2_Mod o2_Locs o2_Threads o2_Claims).bind fun y359 => (code_maker_node_1_L10 n rec_code_maker_node_1 m_l o1 o2_Mod o2_Locs o2_Threads o2_Claims y14 k350 ((y359).1) (IntKind.i64.wrap (s347 + 1)) ((y359).2.2) ((y359).2.1))) else (some (.out (s346, s348, s349))))
def m_code_maker_node_1 : Nat → Int → (List S_api_Node) → (List OpS) → Bool → (List (List UInt8)) → Int → (List S_api_Var) → (List S_api_Thread) → (List S_api_Claim) → Option (Int × (List OpS) × Bool)
  | 0, _, _, _, _, _, _, _, _, _ => none
  | n+1, v1_i, m_l, m_out, m_ok, o1, o2_Mod, o2_Locs, o2_Threads, o2_Claims => ((idx m_l v1_i).bind fun x1 => ((m_code_of n x1.f_Op).bind fun y2 => (match y2 with | .c0 y4 => (bif (y4).2 then ((code_maker_node_1_L0 n (m_code_maker_node_1 n) m_l o1 o2_Mod o2_Locs o2_Threads o2_Claims y4 n (IntKind.i64.wrap (v1_i + 1)) 0 m_ok m_out).bind fun o27 => match o27 with | .out (x32, x33, x34) => (bif decide (((x34).length + 1) * 25 ≤ 140737488355328) then (some (x32, (x34 ++ ([(⟨x1.f_Op, 0, 0⟩ : OpS)] : List OpS)), x33)) else none) | .ret v => some v) else ((m_code_Claim_1 n x1 o1 o2_Mod o2_Locs o2_Threads o2_Claims).bind fun y39 => (bif m_ok then (bif decide (((m_out).length + 1) * 25 ≤ 140737488355328) then (some (IntKind.i64.wrap (v1_i + 1), (m_out ++ ([(y39).1] : List OpS)), (y39).2)) else none) else (bif decide (((m_out).length + 1) * 25 ≤ 140737488355328) then (some (IntKind.i64.wrap (v1_i + 1), (m_out ++ ([(y39).1] : List OpS)), false)) else none)))) | .c1 y5 => (bif (y5).2 then ((code_maker_node_1_L1 n (m_code_maker_node_1 n) m_l o1 o2_Mod o2_Locs o2_Threads o2_Claims y5 n (IntKind.i64.wrap (v1_i + 1)) 0 m_ok m_out).bind fun o60 => match o60 with | .out (x65, x66, x67) => (bif decide (((x67).length + 1) * 25 ≤ 140737488355328) then (some (x65, (x67 ++ ([(⟨x1.f_Op, 0, 0⟩ : OpS)] : List OpS)), x66)) else none) | .ret v => some v) else ((m_code_Claim_1 n x1 o1 o2_Mod o2_Locs o2_Threads o2_Claims).bind fun y72 => (bif m_ok then (bif decide (((m_out).length + 1) * 25 ≤ 140737488355328) then (some (IntKind.i64.wrap (v1_i + 1), (m_out ++ ([(y72).1] : List OpS)), (y72).2)) else none) else (bif decide (((m_out).length + 1) * 25 ≤ 140737488355328) then (some (IntKind.i64.wrap (v1_i + 1), (m_out ++ ([(y72).1] : List OpS)), false)) else none)))) | .c2 y6 => (bif (y6).2 then ((code_maker_node_1_L2 n (m_code_maker_node_1 n) m_l o1 o2_Mod o2_Locs o2_Threads o2_Claims y6 n (IntKind.i64.wrap (v1_i + 1)) 0 m_ok m_out).bind fun o93 => match o93 with | .out (x98, x99, x100) => (bif decide (((x100).length + 1) * 25 ≤ 140737488355328) then (some (x98, (x100 ++ ([(⟨x1.f_Op, 0, 0⟩ : OpS)] : List OpS)), x99)) else none) | .ret v => some v) else ((m_code_Claim_1 n x1 o1 o2_Mod o2_Locs o2_Threads o2_Claims).bind fun y105 => (bif m_ok then (bif decide (((m_out).length + 1) * 25 ≤ 140737488355328) then (some (IntKind.i64.wrap (v1_i + 1), (m_out ++ ([(y105).1] : List OpS)), (y105).2)) else none) else (bif decide (((m_out).length + 1) * 25 ≤ 140737488355328) then (some (IntKind.i64.wrap (v1_i + 1), (m_out ++ ([(y105).1] : List OpS)), false)) else none)))) | .c3 y7 => (bif (y7).2 then ((code_maker_node_1_L3 n (m_code_maker_node_1 n) m_l o1 o2_Mod o2_Locs o2_Threads o2_Claims y7 n (IntKind.i64.wrap (v1_i + 1)) 0 m_ok m_out).bind fun o126 => match o126 with | .out (x131, x132, x133) => (bif decide (((x133).length + 1) * 25 ≤ 140737488355328) then (some (x131, (x133 ++ ([(⟨x1.f_Op, 0, 0⟩ : OpS)] : List OpS)), x132)) else none) | .ret v => some v) else ((m_code_Claim_1 n x1 o1 o2_Mod o2_Locs o2_Threads o2_Claims).bind fun y138 => (bif m_ok then (bif decide (((m_out).length + 1) * 25 ≤ 140737488355328) then (some (IntKind.i64.wrap (v1_i + 1), (m_out ++ ([(y138).1] : List OpS)), (y138).2)) else none) else (bif decide (((m_out).length + 1) * 25 ≤ 140737488355328) then (some (IntKind.i64.wrap (v1_i + 1), (m_out ++ ([(y138).1] : List OpS)), false)) else none)))) | .c4 y8 => (bif (y8).2 then ((code_maker_node_1_L4 n (m_code_maker_node_1 n) m_l o1 o2_Mod o2_Locs o2_Threads o2_Claims y8 n (IntKind.i64.wrap (v1_i + 1)) 0 m_ok m_out).bind fun o159 => match o159 with | .out (x164, x165, x166) => (bif decide (((x166).length + 1) * 25 ≤ 140737488355328) then (some (x164, (x166 ++ ([(⟨x1.f_Op, 0, 0⟩ : OpS)] : List OpS)), x165)) else none) | .ret v => some v) else ((m_code_Claim_1 n x1 o1 o2_Mod o2_Locs o2_Threads o2_Claims).bind fun y171 => (bif m_ok then (bif decide (((m_out).length + 1) * 25 ≤ 140737488355328) then (some (IntKind.i64.wrap (v1_i + 1), (m_out ++ ([(y171).1] : List OpS)), (y171).2)) else none) else (bif decide (((m_out).length + 1) * 25 ≤ 140737488355328) then (some (IntKind.i64.wrap (v1_i + 1), (m_out ++ ([(y171).1] : List OpS)), false)) else none)))) | .c5 y9 => (bif (y9).2 then ((code_maker_node_1_L5 n (m_code_maker_node_1 n) m_l o1 o2_Mod o2_Locs o2_Threads o2_Claims y9 n (IntKind.i64.wrap (v1_i + 1)) 0 m_ok m_out).bind fun o192 => match o192 with | .out (x197, x198, x199) => (bif decide (((x199).length + 1) * 25 ≤ 140737488355328) then (some (x197, (x199 ++ ([(⟨x1.f_Op, 0, 0⟩ : OpS)] : List OpS)), x198)) else none) | .ret v => some v) else ((m_code_Claim_1 n x1 o1 o2_Mod o2_Locs o2_Threads o2_Claims).bind fun y204 => (bif m_ok then (bif decide (((m_out).length + 1) * 25 ≤ 140737488355328) then (some (IntKind.i64.wrap (v1_i + 1), (m_out ++ ([(y204).1] : List OpS)), (y204).2)) else none) else (bif decide (((m_out).length + 1) * 25 ≤ 140737488355328) then (some (IntKind.i64.wrap (v1_i + 1), (m_out ++ ([(y204).1] : List OpS)), false)) else none)))) | .c6 y10 => (bif (y10).2 then ((code_maker_node_1_L6 n (m_code_maker_node_1 n) m_l o1 o2_Mod o2_Locs o2_Threads o2_Claims y10 n (IntKind.i64.wrap (v1_i + 1)) 0 m_ok m_out).bind fun o225 => match o225 with | .out (x230, x231, x232) => (bif decide (((x232).length + 1) * 25 ≤ 140737488355328) then (some (x230, (x232 ++ ([(⟨x1.f_Op, 0, 0⟩ : OpS)] : List OpS)), x231)) else none) | .ret v => some v) else ((m_code_Claim_1 n x1 o1 o2_Mod o2_Locs o2_Threads o2_Claims).bind fun y237 => (bif m_ok then (bif decide (((m_out).length + 1) * 25 ≤ 140737488355328) then (some (IntKind.i64.wrap (v1_i + 1), (m_out ++ ([(y237).1] : List OpS)), (y237).2)) else none) else (bif decide (((m_out).length + 1) * 25 ≤ 140737488355328) then (some (IntKind.i64.wrap (v1_i + 1), (m_out ++ ([(y237).1] : List OpS)), false)) else none)))) | .c7 y11 => (bif (y11).2 then ((code_maker_node_1_L7 n (m_code_maker_node_1 n) m_l o1 o2_Mod o2_Locs o2_Threads o2_Claims y11 n (IntKind.i64.wrap (v1_i + 1)) 0 m_ok m_out).bind fun o258 => match o258 with | .out (x263, x264, x265) => (bif decide (((x265).length + 1) * 25 ≤ 140737488355328) then (some (x263, (x265 ++ ([(⟨x1.f_Op, 0, 0⟩ : OpS)] : List OpS)), x264)) else none) | .ret v => some v) else ((m_code_Claim_1 n x1 o1 o2_Mod o2_Locs o2_Threads o2_Claims).bind fun y270 => (bif m_ok then (bif decide (((m_out).length + 1) * 25 ≤ 140737488355328) then (some (IntKind.i64.wrap (v1_i + 1), (m_out ++ ([(y270).1] : List OpS)), (y270).2)) else none) else (bif decide (((m_out).length + 1) * 25 ≤ 140737488355328) then (some (IntKind.i64.wrap (v1_i + 1), (m_out ++ ([(y270).1] : List OpS)), false)) else none)))) | .c8 y12 => (bif (y12).2 then ((code_maker_node_1_L8 n (m_code_maker_node_1 n) m_l o1 o2_Mod o2_Locs o2_Threads o2_Claims y12 n (IntKind.i64.wrap (v1_i + 1)) 0 m_ok m_out).bind fun o291 => match o291 with | .out (x296, x297, x298) => (bif decide (((x298).length + 1) * 25 ≤ 140737488355328) then (some (x296, (x298 ++ ([(⟨x1.f_Op, 0, 0⟩ : OpS)] : List OpS)), x297)) else none) | .ret v => some v) else ((m_code_Claim_1 n x1 o1 o2_Mod o2_Locs o2_Threads o2_Claims).bind fun y303 => (bif m_ok then (bif decide (((m_out).length + 1) * 25 ≤ 140737488355328) then (some (IntKind.i64.wrap (v1_i + 1), (m_out ++ ([(y303).1] : List OpS)), (y303).2)) else none) else (bif decide (((m_out).length + 1) * 25 ≤ 140737488355328) then (some (IntKind.i64.wrap (v1_i + 1), (m_out ++ ([(y303).1] : List OpS)), false)) else none)))) | .c9 y13 => (bif (y13).2 then ((code_maker_node_1_L9 n (m_code_maker_node_1 n) m_l o1 o2_Mod o2_Locs o2_Threads o2_Claims y13 n (IntKind.i64.wrap (v1_i + 1)) 0 m_ok m_out).bind fun o324 => match o324 with | .out (x329, x330, x331) => (bif decide (((x331).length + 1) * 25 ≤ 140737488355328) then (some (x329, (x331 ++ ([(⟨x1.f_Op, 0, 0⟩ : OpS)] : List OpS)), x330)) else none) | .ret v => some v) else ((m_code_Claim_1 n x1 o1 o2_Mod o2_Locs o2_Threads o2_Claims).bind fun y336 => (bif m_ok then (bif decide (((m_out).length + 1) * 25 ≤ 140737488355328) then (some (IntKind.i64.wrap (v1_i + 1), (m_out ++ ([(y336).1] : List OpS)), (y336).2)) else none) else (bif decide (((m_out).length + 1) * 25 ≤ 140737488355328) then (some (IntKind.i64.wrap (v1_i + 1), (m_out ++ ([(y336).1] : List OpS)), false)) else none)))) | .c10 y14 => (bif (y14).2 then ((code_maker_node_1_L10 n (m_code_maker_node_1 n) m_l o1 o2_Mod o2_Locs o2_Threads o2_Claims y14 n (IntKind.i64.wrap (v1_i + 1)) 0 m_ok m_out).bind fun o357 => match o357 with | .out (x362, x363, x364) => (bif decide (((x364).length + 1) * 25 ≤ 140737488355328) then (some (x362, (x364 ++ ([(⟨x1.f_Op, 0, 0⟩ : OpS)] : List OpS)), x363)) else none) | .ret v => some v) else ((m_code_Claim_1 n x1 o1 o2_Mod o2_Locs o2_Threads o2_Claims).bind fun y369 => (bif m_ok then (bif decide (((m_out).length + 1) * 25 ≤ 140737488355328) then (some (IntKind.i64.wrap (v1_i + 1), (m_out ++ ([(y369).1] : List OpS)), (y369).2)) else none) else (bif decide (((m_out).length + 1) * 25 ≤ 140737488355328) then (some (IntKind.i64.wrap (v1_i + 1), (m_out ++ ([(y369).1] : List OpS)), false)) else none)))))))

def m_code_made_1 : Nat → (List S_api_Node) → (List (List UInt8)) → Int → (List S_api_Var) → (List S_api_Thread) → (List S_api_Claim) → Option ((List OpS) × Bool)
  | 0, _, _, _, _, _, _ => none
  | n+1, v0_l, o0, o1_Mod, o1_Locs, o1_Threads, o1_Claims => ((m_expr_Right n v0_l).bind fun y1 => (bif y1 then ((m_code_maker_node_1 n 0 v0_l ([] : List OpS) true o0 o1_Mod o1_Locs o1_Threads o1_Claims).bind fun y4 => (bif (y4).2.2 then (some ((y4).2.1, true)) else (some (([] : List OpS), false)))) else (some (([] : List OpS), false))))

def m_code_Claim : Nat → (List S_api_Node) → S_api_Prog → Option ((List OpS) × Bool)
  | 0, _, _ => none
  | n+1, v0_l, v1_p => ((m_legal_Locs n v1_p).bind fun y1 => ((m_code_made_1 n v0_l y1 v1_p.f_Mod v1_p.f_Locs v1_p.f_Threads v1_p.f_Claims).bind fun y3 => (some ((y3).1, (y3).2))))

def m_code_Thread_1 : Nat → S_api_Node → (List (List UInt8)) → Option (OpS × Bool)
  | 0, _, _ => none
  | n+1, v0_x, o0 => (bif (v0_x.f_Op == 1) then (some ((⟨1, v0_x.f_N, 0⟩ : OpS), true)) else ((m_legal_Index n o0 v0_x.f_Name).bind fun y2 => (bif (v0_x.f_Op == 2) then (some ((⟨2, y2, 0⟩ : OpS), (y2 != (-1)))) else (some ((⟨2, y2, 0⟩ : OpS), false)))))

def code_maker_node_L0 (n : Nat) (rec_code_maker_node : Int → (List S_api_Node) → (List OpS) → Bool → (List (List UInt8)) → Option (Int × (List OpS) × Bool)) (m_l : (List S_api_Node)) (o1 : (List (List UInt8))) (y4 : (Int × Bool)) : Nat → Int → Int → Bool → (List OpS) → Option (LR (Int × Bool × (List OpS)) (Int × (List OpS) × Bool))
  | 0, _, _, _, _ => none
  | k20+1, s16, s17, s18, s19 => (bif decide (s17 < ((y4).1)) then ((rec_code_maker_node s16 m_l s19 s18 o1).bind fun y29 => (code_maker_node_L0 n rec_code_maker_node m_l o1 y4 k20 ((y29).1) (IntKind.i64.wrap (s17 + 1)) ((y29).2.2) ((y29).2.1))) else (some (.out (s16, s18, s19))))
def code_maker_node_L1 (n : Nat) (rec_code_maker_node : Int → (List S_api_Node) → (List OpS) → Bool → (List (List UInt8)) → Option (Int × (List OpS) × Bool)) (m_l : (List S_api_Node)) (o1 : (List (List UInt8))) (y5 : (Int × Bool)) : Nat → Int → Int → Bool → (List OpS) → Option (LR (Int × Bool × (List OpS)) (Int × (List OpS) × Bool))
  | 0, _, _, _, _ => none
  | k53+1, s49, s50, s51, s52 => (bif decide (s50 < ((y5).1)) then ((rec_code_maker_node s49 m_l s52 s51 o1).bind fun y62 => (code_maker_node_L1 n rec_code_maker_node m_l o1 y5 k53 ((y62).1) (IntKind.i64.wrap (s50 + 1)) ((y62).2.2) ((y62).2.1))) else (some (.out (s49, s51, s52))))
def code_maker_node_L2 (n : Nat) (rec_code_maker_node : Int → (List S_api_Node) → (List OpS) → Bool → (List (List UInt8)) → Option (Int × (List OpS) × Bool)) (m_l : (List S_api_Node)) (o1 : (List (List UInt8))) (y6 : (Int × Bool)) : Nat → Int → Int → Bool → (List OpS) → Option (LR (Int × Bool × (List OpS)) (Int × (List OpS) × Bool))
  | 0, _, _, _, _ => none
  | k86+1, s82, s83, s84, s85 => (bif decide (s83 < ((y6).1)) then ((rec_code_maker_node s82 m_l s85 s84 o1).bind fun y95 => (code_maker_node_L2 n rec_code_maker_node m_l o1 y6 k86 ((y95).1) (IntKind.i64.wrap (s83 + 1)) ((y95).2.2) ((y95).2.1))) else (some (.out (s82, s84, s85))))
def code_maker_node_L3 (n : Nat) (rec_code_maker_node : Int → (List S_api_Node) → (List OpS) → Bool → (List (List UInt8)) → Option (Int × (List OpS) × Bool)) (m_l : (List S_api_Node)) (o1 : (List (List UInt8))) (y7 : (Int × Bool)) : Nat → Int → Int → Bool → (List OpS) → Option (LR (Int × Bool × (List OpS)) (Int × (List OpS) × Bool))
  | 0, _, _, _, _ => none
  | k119+1, s115, s116, s117, s118 => (bif decide (s116 < ((y7).1)) then ((rec_code_maker_node s115 m_l s118 s117 o1).bind fun y128 => (code_maker_node_L3 n rec_code_maker_node m_l o1 y7 k119 ((y128).1) (IntKind.i64.wrap (s116 + 1)) ((y128).2.2) ((y128).2.1))) else (some (.out (s115, s117, s118))))
def code_maker_node_L4 (n : Nat) (rec_code_maker_node : Int → (List S_api_Node) → (List OpS) → Bool → (List (List UInt8)) → Option (Int × (List OpS) × Bool)) (m_l : (List S_api_Node)) (o1 : (List (List UInt8))) (y8 : (Int × Bool)) : Nat → Int → Int → Bool → (List OpS) → Option (LR (Int × Bool × (List OpS)) (Int × (List OpS) × Bool))
  | 0, _, _, _, _ => none
  | k152+1, s148, s149, s150, s151 => (bif decide (s149 < ((y8).1)) then ((rec_code_maker_node s148 m_l s151 s150 o1).bind fun y161 => (code_maker_node_L4 n rec_code_maker_node m_l o1 y8 k152 ((y161).1) (IntKind.i64.wrap (s149 + 1)) ((y161).2.2) ((y161).2.1))) else (some (.out (s148, s150, s151))))
def code_maker_node_L5 (n : Nat) (rec_code_maker_node : Int → (List S_api_Node) → (List OpS) → Bool → (List (List UInt8)) → Option (Int × (List OpS) × Bool)) (m_l : (List S_api_Node)) (o1 : (List (List UInt8))) (y9 : (Int × Bool)) : Nat → Int → Int → Bool → (List OpS) → Option (LR (Int × Bool × (List OpS)) (Int × (List OpS) × Bool))
  | 0, _, _, _, _ => none
  | k185+1, s181, s182, s183, s184 => (bif decide (s182 < ((y9).1)) then ((rec_code_maker_node s181 m_l s184 s183 o1).bind fun y194 => (code_maker_node_L5 n rec_code_maker_node m_l o1 y9 k185 ((y194).1) (IntKind.i64.wrap (s182 + 1)) ((y194).2.2) ((y194).2.1))) else (some (.out (s181, s183, s184))))
def code_maker_node_L6 (n : Nat) (rec_code_maker_node : Int → (List S_api_Node) → (List OpS) → Bool → (List (List UInt8)) → Option (Int × (List OpS) × Bool)) (m_l : (List S_api_Node)) (o1 : (List (List UInt8))) (y10 : (Int × Bool)) : Nat → Int → Int → Bool → (List OpS) → Option (LR (Int × Bool × (List OpS)) (Int × (List OpS) × Bool))
  | 0, _, _, _, _ => none
  | k218+1, s214, s215, s216, s217 => (bif decide (s215 < ((y10).1)) then ((rec_code_maker_node s214 m_l s217 s216 o1).bind fun y227 => (code_maker_node_L6 n rec_code_maker_node m_l o1 y10 k218 ((y227).1) (IntKind.i64.wrap (s215 + 1)) ((y227).2.2) ((y227).2.1))) else (some (.out (s214, s216, s217))))
def code_maker_node_L7 (n : Nat) (rec_code_maker_node : Int → (List S_api_Node) → (List OpS) → Bool → (List (List UInt8)) → Option (Int × (List OpS) × Bool)) (m_l : (List S_api_Node)) (o1 : (List (List UInt8))) (y11 : (Int × Bool)) : Nat → Int → Int → Bool → (List OpS) → Option (LR (Int × Bool × (List OpS)) (Int × (List OpS) × Bool))
  | 0, _, _, _, _ => none
  | k251+1, s247, s248, s249, s250 => (bif decide (s248 < ((y11).1)) then ((rec_code_maker_node s247 m_l s250 s249 o1).bind fun y260 => (code_maker_node_L7 n rec_code_maker_node m_l o1 y11 k251 ((y260).1) (IntKind.i64.wrap (s248 + 1)) ((y260).2.2) ((y260).2.1))) else (some (.out (s247, s249, s250))))
def code_maker_node_L8 (n : Nat) (rec_code_maker_node : Int → (List S_api_Node) → (List OpS) → Bool → (List (List UInt8)) → Option (Int × (List OpS) × Bool)) (m_l : (List S_api_Node)) (o1 : (List (List UInt8))) (y12 : (Int × Bool)) : Nat → Int → Int → Bool → (List OpS) → Option (LR (Int × Bool × (List OpS)) (Int × (List OpS) × Bool))
  | 0, _, _, _, _ => none
  | k284+1, s280, s281, s282, s283 => (bif decide (s281 < ((y12).1)) then ((rec_code_maker_node s280 m_l s283 s282 o1).bind fun y293 => (code_maker_node_L8 n rec_code_maker_node m_l o1 y12 k284 ((y293).1) (IntKind.i64.wrap (s281 + 1)) ((y293).2.2) ((y293).2.1))) else (some (.out (s280, s282, s283))))
def code_maker_node_L9 (n : Nat) (rec_code_maker_node : Int → (List S_api_Node) → (List OpS) → Bool → (List (List UInt8)) → Option (Int × (List OpS) × Bool)) (m_l : (List S_api_Node)) (o1 : (List (List UInt8))) (y13 : (Int × Bool)) : Nat → Int → Int → Bool → (List OpS) → Option (LR (Int × Bool × (List OpS)) (Int × (List OpS) × Bool))
  | 0, _, _, _, _ => none
  | k317+1, s313, s314, s315, s316 => (bif decide (s314 < ((y13).1)) then ((rec_code_maker_node s313 m_l s316 s315 o1).bind fun y326 => (code_maker_node_L9 n rec_code_maker_node m_l o1 y13 k317 ((y326).1) (IntKind.i64.wrap (s314 + 1)) ((y326).2.2) ((y326).2.1))) else (some (.out (s313, s315, s316))))
def code_maker_node_L10 (n : Nat) (rec_code_maker_node : Int → (List S_api_Node) → (List OpS) → Bool → (List (List UInt8)) → Option (Int × (List OpS) × Bool)) (m_l : (List S_api_Node)) (o1 : (List (List UInt8))) (y14 : (Int × Bool)) : Nat → Int → Int → Bool → (List OpS) → Option (LR (Int × Bool × (List OpS)) (Int × (List OpS) × Bool))
  | 0, _, _, _, _ => none
  | k350+1, s346, s347, s348, s349 => (bif decide (s347 < ((y14).1)) then ((rec_code_maker_node s346 m_l s349 s348 o1).bind fun y359 => (code_maker_node_L10 n rec_code_maker_node m_l o1 y14 k350 ((y359).1) (IntKind.i64.wrap (s347 + 1)) ((y359).2.2) ((y359).2.1))) else (some (.out (s346, s348, s349))))
def m_code_maker_node : Nat → Int → (List S_api_Node) → (List OpS) → Bool → (List (List UInt8)) → Option (Int × (List OpS) × Bool)
  | 0, _, _, _, _, _ => none
  | n+1, v1_i, m_l, m_out, m_ok, o1 => ((idx m_l v1_i).bind fun x1 => ((m_code_of n x1.f_Op).bind fun y2 => (match y2 with | .c0 y4 => (bif (y4).2 then ((code_maker_node_L0 n (m_code_maker_node n) m_l o1 y4 n (IntKind.i64.wrap (v1_i + 1)) 0 m_ok m_out).bind fun o27 => match o27 with | .out (x32, x33, x34) => (bif decide (((x34).length + 1) * 25 ≤ 140737488355328) then (some (x32, (x34 ++ ([(⟨x1.f_Op, 0, 0⟩ : OpS)] : List OpS)), x33)) else none) | .ret v => some v) else ((m_code_Thread_1 n x1 o1).bind fun y39 => (bif m_ok then (bif decide (((m_out).length + 1) * 25 ≤ 140737488355328) then (some (IntKind.i64.wrap (v1_i + 1), (m_out ++ ([(y39).1] : List OpS)), (y39).2)) else none) else (bif decide (((m_out).length + 1) * 25 ≤ 140737488355328) then (some (IntKind.i64.wrap (v1_i + 1), (m_out ++ ([(y39).1] : List OpS)), false)) else none)))) | .c1 y5 => (bif (y5).2 then ((code_maker_node_L1 n (m_code_maker_node n) m_l o1 y5 n (IntKind.i64.wrap (v1_i + 1)) 0 m_ok m_out).bind fun o60 => match o60 with | .out (x65, x66, x67) => (bif decide (((x67).length + 1) * 25 ≤ 140737488355328) then (some (x65, (x67 ++ ([(⟨x1.f_Op, 0, 0⟩ : OpS)] : List OpS)), x66)) else none) | .ret v => some v) else ((m_code_Thread_1 n x1 o1).bind fun y72 => (bif m_ok then (bif decide (((m_out).length + 1) * 25 ≤ 140737488355328) then (some (IntKind.i64.wrap (v1_i + 1), (m_out ++ ([(y72).1] : List OpS)), (y72).2)) else none) else (bif decide (((m_out).length + 1) * 25 ≤ 140737488355328) then (some (IntKind.i64.wrap (v1_i + 1), (m_out ++ ([(y72).1] : List OpS)), false)) else none)))) | .c2 y6 => (bif (y6).2 then ((code_maker_node_L2 n (m_code_maker_node n) m_l o1 y6 n (IntKind.i64.wrap (v1_i + 1)) 0 m_ok m_out).bind fun o93 => match o93 with | .out (x98, x99, x100) => (bif decide (((x100).length + 1) * 25 ≤ 140737488355328) then (some (x98, (x100 ++ ([(⟨x1.f_Op, 0, 0⟩ : OpS)] : List OpS)), x99)) else none) | .ret v => some v) else ((m_code_Thread_1 n x1 o1).bind fun y105 => (bif m_ok then (bif decide (((m_out).length + 1) * 25 ≤ 140737488355328) then (some (IntKind.i64.wrap (v1_i + 1), (m_out ++ ([(y105).1] : List OpS)), (y105).2)) else none) else (bif decide (((m_out).length + 1) * 25 ≤ 140737488355328) then (some (IntKind.i64.wrap (v1_i + 1), (m_out ++ ([(y105).1] : List OpS)), false)) else none)))) | .c3 y7 => (bif (y7).2 then ((code_maker_node_L3 n (m_code_maker_node n) m_l o1 y7 n (IntKind.i64.wrap (v1_i + 1)) 0 m_ok m_out).bind fun o126 => match o126 with | .out (x131, x132, x133) => (bif decide (((x133).length + 1) * 25 ≤ 140737488355328) then (some (x131, (x133 ++ ([(⟨x1.f_Op, 0, 0⟩ : OpS)] : List OpS)), x132)) else none) | .ret v => some v) else ((m_code_Thread_1 n x1 o1).bind fun y138 => (bif m_ok then (bif decide (((m_out).length + 1) * 25 ≤ 140737488355328) then (some (IntKind.i64.wrap (v1_i + 1), (m_out ++ ([(y138).1] : List OpS)), (y138).2)) else none) else (bif decide (((m_out).length + 1) * 25 ≤ 140737488355328) then (some (IntKind.i64.wrap (v1_i + 1), (m_out ++ ([(y138).1] : List OpS)), false)) else none)))) | .c4 y8 => (bif (y8).2 then ((code_maker_node_L4 n (m_code_maker_node n) m_l o1 y8 n (IntKind.i64.wrap (v1_i + 1)) 0 m_ok m_out).bind fun o159 => match o159 with | .out (x164, x165, x166) => (bif decide (((x166).length + 1) * 25 ≤ 140737488355328) then (some (x164, (x166 ++ ([(⟨x1.f_Op, 0, 0⟩ : OpS)] : List OpS)), x165)) else none) | .ret v => some v) else ((m_code_Thread_1 n x1 o1).bind fun y171 => (bif m_ok then (bif decide (((m_out).length + 1) * 25 ≤ 140737488355328) then (some (IntKind.i64.wrap (v1_i + 1), (m_out ++ ([(y171).1] : List OpS)), (y171).2)) else none) else (bif decide (((m_out).length + 1) * 25 ≤ 140737488355328) then (some (IntKind.i64.wrap (v1_i + 1), (m_out ++ ([(y171).1] : List OpS)), false)) else none)))) | .c5 y9 => (bif (y9).2 then ((code_maker_node_L5 n (m_code_maker_node n) m_l o1 y9 n (IntKind.i64.wrap (v1_i + 1)) 0 m_ok m_out).bind fun o192 => match o192 with | .out (x197, x198, x199) => (bif decide (((x199).length + 1) * 25 ≤ 140737488355328) then (some (x197, (x199 ++ ([(⟨x1.f_Op, 0, 0⟩ : OpS)] : List OpS)), x198)) else none) | .ret v => some v) else ((m_code_Thread_1 n x1 o1).bind fun y204 => (bif m_ok then (bif decide (((m_out).length + 1) * 25 ≤ 140737488355328) then (some (IntKind.i64.wrap (v1_i + 1), (m_out ++ ([(y204).1] : List OpS)), (y204).2)) else none) else (bif decide (((m_out).length + 1) * 25 ≤ 140737488355328) then (some (IntKind.i64.wrap (v1_i + 1), (m_out ++ ([(y204).1] : List OpS)), false)) else none)))) | .c6 y10 => (bif (y10).2 then ((code_maker_node_L6 n (m_code_maker_node n) m_l o1 y10 n (IntKind.i64.wrap (v1_i + 1)) 0 m_ok m_out).bind fun o225 => match o225 with | .out (x230, x231, x232) => (bif decide (((x232).length + 1) * 25 ≤ 140737488355328) then (some (x230, (x232 ++ ([(⟨x1.f_Op, 0, 0⟩ : OpS)] : List OpS)), x231)) else none) | .ret v => some v) else ((m_code_Thread_1 n x1 o1).bind fun y237 => (bif m_ok then (bif decide (((m_out).length + 1) * 25 ≤ 140737488355328) then (some (IntKind.i64.wrap (v1_i + 1), (m_out ++ ([(y237).1] : List OpS)), (y237).2)) else none) else (bif decide (((m_out).length + 1) * 25 ≤ 140737488355328) then (some (IntKind.i64.wrap (v1_i + 1), (m_out ++ ([(y237).1] : List OpS)), false)) else none)))) | .c7 y11 => (bif (y11).2 then ((code_maker_node_L7 n (m_code_maker_node n) m_l o1 y11 n (IntKind.i64.wrap (v1_i + 1)) 0 m_ok m_out).bind fun o258 => match o258 with | .out (x263, x264, x265) => (bif decide (((x265).length + 1) * 25 ≤ 140737488355328) then (some (x263, (x265 ++ ([(⟨x1.f_Op, 0, 0⟩ : OpS)] : List OpS)), x264)) else none) | .ret v => some v) else ((m_code_Thread_1 n x1 o1).bind fun y270 => (bif m_ok then (bif decide (((m_out).length + 1) * 25 ≤ 140737488355328) then (some (IntKind.i64.wrap (v1_i + 1), (m_out ++ ([(y270).1] : List OpS)), (y270).2)) else none) else (bif decide (((m_out).length + 1) * 25 ≤ 140737488355328) then (some (IntKind.i64.wrap (v1_i + 1), (m_out ++ ([(y270).1] : List OpS)), false)) else none)))) | .c8 y12 => (bif (y12).2 then ((code_maker_node_L8 n (m_code_maker_node n) m_l o1 y12 n (IntKind.i64.wrap (v1_i + 1)) 0 m_ok m_out).bind fun o291 => match o291 with | .out (x296, x297, x298) => (bif decide (((x298).length + 1) * 25 ≤ 140737488355328) then (some (x296, (x298 ++ ([(⟨x1.f_Op, 0, 0⟩ : OpS)] : List OpS)), x297)) else none) | .ret v => some v) else ((m_code_Thread_1 n x1 o1).bind fun y303 => (bif m_ok then (bif decide (((m_out).length + 1) * 25 ≤ 140737488355328) then (some (IntKind.i64.wrap (v1_i + 1), (m_out ++ ([(y303).1] : List OpS)), (y303).2)) else none) else (bif decide (((m_out).length + 1) * 25 ≤ 140737488355328) then (some (IntKind.i64.wrap (v1_i + 1), (m_out ++ ([(y303).1] : List OpS)), false)) else none)))) | .c9 y13 => (bif (y13).2 then ((code_maker_node_L9 n (m_code_maker_node n) m_l o1 y13 n (IntKind.i64.wrap (v1_i + 1)) 0 m_ok m_out).bind fun o324 => match o324 with | .out (x329, x330, x331) => (bif decide (((x331).length + 1) * 25 ≤ 140737488355328) then (some (x329, (x331 ++ ([(⟨x1.f_Op, 0, 0⟩ : OpS)] : List OpS)), x330)) else none) | .ret v => some v) else ((m_code_Thread_1 n x1 o1).bind fun y336 => (bif m_ok then (bif decide (((m_out).length + 1) * 25 ≤ 140737488355328) then (some (IntKind.i64.wrap (v1_i + 1), (m_out ++ ([(y336).1] : List OpS)), (y336).2)) else none) else (bif decide (((m_out).length + 1) * 25 ≤ 140737488355328) then (some (IntKind.i64.wrap (v1_i + 1), (m_out ++ ([(y336).1] : List OpS)), false)) else none)))) | .c10 y14 => (bif (y14).2 then ((code_maker_node_L10 n (m_code_maker_node n) m_l o1 y14 n (IntKind.i64.wrap (v1_i + 1)) 0 m_ok m_out).bind fun o357 => match o357 with | .out (x362, x363, x364) => (bif decide (((x364).length + 1) * 25 ≤ 140737488355328) then (some (x362, (x364 ++ ([(⟨x1.f_Op, 0, 0⟩ : OpS)] : List OpS)), x363)) else none) | .ret v => some v) else ((m_code_Thread_1 n x1 o1).bind fun y369 => (bif m_ok then (bif decide (((m_out).length + 1) * 25 ≤ 140737488355328) then (some (IntKind.i64.wrap (v1_i + 1), (m_out ++ ([(y369).1] : List OpS)), (y369).2)) else none) else (bif decide (((m_out).length + 1) * 25 ≤ 140737488355328) then (some (IntKind.i64.wrap (v1_i + 1), (m_out ++ ([(y369).1] : List OpS)), false)) else none)))))))

def m_code_made : Nat → (List S_api_Node) → (List (List UInt8)) → Option ((List OpS) × Bool)
  | 0, _, _ => none
  | n+1, v0_l, o0 => ((m_expr_Right n v0_l).bind fun y1 => (bif y1 then ((m_code_maker_node n 0 v0_l ([] : List OpS) true o0).bind fun y4 => (bif (y4).2.2 then (some ((y4).2.1, true)) else (some (([] : List OpS), false)))) else (some (([] : List OpS), false))))

def m_code_Thread : Nat → (List S_api_Node) → (List (List UInt8)) → Option ((List OpS) × Bool)
  | 0, _, _ => none
  | n+1, v0_l, v1_regs => ((m_code_made n v0_l v1_regs).bind fun y1 => (some ((y1).1, (y1).2)))

def law06_CodeMakes_L0 (n : Nat)  (v1_regs : (List (List UInt8))) : Nat → Int → Option (LR Unit Bool)
  | 0, _ => none
  | k11+1, s10 => (bif decide (s10 < (((v1_regs).length : Nat) : Int)) then ((idx v1_regs s10).bind fun x20 => (bif decide (100 < (((x20).length : Nat) : Int)) then ((m_law06_known n ).bind fun y22 => (some (.ret y22))) else (law06_CodeMakes_L0 n v1_regs k11 (IntKind.i64.wrap (s10 + 1))))) else (some (.out ())))
def m_law06_CodeMakes : Nat → (List S_api_Node) → (List (List UInt8)) → S_api_Prog → Option Bool
  | 0, _, _, _ => none
  | n+1, v0_l, v1_regs, v2_p => ((m_ref02_Light n v0_l).bind fun y1 => (bif y1 then (bif decide (20 < (((v1_regs).length : Nat) : Int)) then ((m_law06_known n ).bind fun y5 => (some y5)) else ((m_ref04_Light n v2_p).bind fun y7 => (bif y7 then ((law06_CodeMakes_L0 n v1_regs n 0).bind fun o18 => match o18 with | .out _ => ((m_code_Thread n v0_l v1_regs).bind fun y25 => ((m_ref06_Thread n v0_l v1_regs).bind fun y27 => ((m_code_Claim n v0_l v2_p).bind fun y29 => ((m_ref06_Claim n v0_l v2_p).bind fun y31 => ((m_ref06_Same n ((y25).1) ((y27).1)).bind fun y33 => (bif y33 then (bif ((y25).2 == (y27).2) then ((m_ref06_Same n ((y29).1) ((y31).1)).bind fun y37 => (bif y37 then (bif ((y29).2 == (y31).2) then ((m_law06_known n ).bind fun y41 => (some y41)) else (some false)) else (some false))) else (some false)) else (some false))))))) | .ret v => some v) else ((m_law06_known n ).bind fun y44 => (some y44))))) else ((m_law06_known n ).bind fun y46 => (some y46))))

end Go.Proofs.Ytmnnkeejgkhgpaa
end

section
namespace Go.Proofs.Ytmnnkeejgkhgpaa
set_option linter.unusedVariables false
set_option linter.unusedSimpArgs false

theorem idx_get {α : Type} {l : List α} {i : Nat} (h : i < l.length) : idx l (i : Int) = some l[i] := by rw [idx_nat, List.getElem?_eq_getElem h]
theorem wrap_one (k : Nat) (h : k < 4611686018427387904) : IntKind.i64.wrap ((k : Int) + 1) = ((k + 1 : Nat) : Int) := wrap_succ k (by omega)
theorem bif_decide {α : Type} {p : Prop} [Decidable p] (h : p) (a b : α) : (bif decide p then a else b) = a := by rw [decide_eq_true h]; rfl
theorem bif_not {α : Type} {p : Prop} [Decidable p] (h : ¬ p) (a b : α) : (bif decide p then a else b) = b := by rw [decide_eq_false h]; rfl
theorem natEq (a b : Nat) : ((a : Int) == (b : Int)) = (a == b) := by
  by_cases h : a = b
  · subst h; simp
  · have : ¬ (a : Int) = (b : Int) := by omega
    rw [beq_eq_false_iff_ne.2 h, beq_eq_false_iff_ne.2 this]
theorem natNe (a b : Nat) : ((a : Int) != (b : Int)) = !(a == b) := by rw [← natEq]; rfl
end Go.Proofs.Ytmnnkeejgkhgpaa
end

section
namespace Go.Proofs.Ytmnnkeejgkhgpaa
set_option linter.unusedVariables false
set_option linter.unusedSimpArgs false

/-- A loop over a row. -/
theorem loop_list {α σ ρ : Type} (l : List α) (L : Nat → Nat → σ → Option ρ) (F : List α → σ → Option ρ) (Inv : Nat → σ → Prop)
    (h0 : ∀ k s, Inv l.length s → L (k + 1) l.length s = F [] s)
    (h1 : ∀ k i s x, i < l.length → l[i]? = some x → Inv i s → (∀ s', Inv (i + 1) s' → L k (i + 1) s' = F (l.drop (i + 1)) s') → L (k + 1) i s = F (x :: l.drop (i + 1)) s) :
    ∀ (m k i : Nat) (s : σ), i + m = l.length → m < k → Inv i s → L k i s = F (l.drop i) s := by
  intro m
  induction m with
  | zero =>
    intro k i s hi hk hs
    obtain ⟨k, rfl⟩ : ∃ j, k = j + 1 := ⟨k - 1, by omega⟩
    obtain rfl : i = l.length := by omega
    rw [h0 k s hs, List.drop_length]
  | succ m ih =>
    intro k i s hi hk hs
    obtain ⟨k, rfl⟩ : ∃ j, k = j + 1 := ⟨k - 1, by omega⟩
    have hlt : i < l.length := by omega
    rw [h1 k i s l[i] hlt (List.getElem?_eq_getElem hlt) hs (fun s' hs' => ih k (i + 1) s' (by omega) (by omega) hs'), List.drop_eq_getElem_cons hlt]
theorem loop_list0 {α σ ρ : Type} (l : List α) (L : Nat → Nat → σ → Option ρ) (F : List α → σ → Option ρ) (Inv : Nat → σ → Prop) {k : Nat} {s : σ} (hk : l.length < k) (hs : Inv 0 s)
    (h0 : ∀ k s, Inv l.length s → L (k + 1) l.length s = F [] s)
    (h1 : ∀ k i s x, i < l.length → l[i]? = some x → Inv i s → (∀ s', Inv (i + 1) s' → L k (i + 1) s' = F (l.drop (i + 1)) s') → L (k + 1) i s = F (x :: l.drop (i + 1)) s) :
    L k 0 s = F l s := loop_list l L F Inv h0 h1 l.length k 0 s (by omega) hk hs
theorem idx_some {α : Type} {l : List α} {i : Nat} {x : α} (h : l[i]? = some x) : idx l (i : Int) = some x := by rw [idx_nat, h]

theorem op_cases (op : Int) : op < 1 ∨ 15 ≤ op ∨ op = 1 ∨ op = 2 ∨ op = 3 ∨ op = 4 ∨ op = 5 ∨ op = 6 ∨ op = 7 ∨ op = 8 ∨ op = 9 ∨ op = 10 ∨ op = 11 ∨ op = 12 ∨ op = 13 ∨ op = 14 := by omega
theorem all_list {α : Type} (l : List α) (L : Nat → Nat → Option (LR Unit Bool)) (p : α → Bool) (h0 : ∀ k, L (k + 1) l.length = some (.out ()))
    (h1 : ∀ k i x, i < l.length → l[i]? = some x → L (k + 1) i = bif p x then L k (i + 1) else some (.ret false)) {k : Nat} (hk : l.length < k) : L k 0 = bif l.all p then some (.out ()) else some (.ret false) := by
  refine loop_list0 l (fun k i (_ : Unit) => L k i) (fun l _ => bif l.all p then some (.out ()) else some (.ret false)) (fun _ _ => True) (s := ()) hk trivial (fun k s _ => h0 k) ?_
  intro k i s x hi hx _ ih
  rw [h1 k i x hi hx, ih () trivial, List.all_cons]
  cases p x <;> rfl
theorem map_list {α β ν : Type} (l : List α) (f : α → β) (L : Nat → Nat → List β → Option (LR (List β) ν)) (h0 : ∀ k s, L (k + 1) l.length s = some (.out s))
    (h1 : ∀ k i x s, i < l.length → l[i]? = some x → s.length = i → L (k + 1) i s = L k (i + 1) (s ++ [f x])) {k : Nat} (hk : l.length < k) : L k 0 [] = some (.out (l.map f)) := by
  have := loop_list0 l L (fun l s => some (.out (s ++ l.map f))) (fun i s => s.length = i) (s := []) hk rfl (fun k s _ => by rw [h0 k]; simp) ?_
  · rw [this]; rfl
  · intro k i s x hi hx hs ih
    rw [h1 k i x s hi hx hs, ih _ (by simp [hs])]; simp
theorem any_list {α : Type} (l : List α) (L : Nat → Nat → Option (LR Unit Bool)) (p : α → Bool) (h0 : ∀ k, L (k + 1) l.length = some (.out ()))
    (h1 : ∀ k i x, i < l.length → l[i]? = some x → L (k + 1) i = bif p x then some (.ret true) else L k (i + 1)) {k : Nat} (hk : l.length < k) : L k 0 = bif l.any p then some (.ret true) else some (.out ()) := by
  refine loop_list0 l (fun k i (_ : Unit) => L k i) (fun l _ => bif l.any p then some (.ret true) else some (.out ())) (fun _ _ => True) (s := ()) hk trivial (fun k s _ => h0 k) ?_
  intro k i s x hi hx _ ih
  rw [h1 k i x hi hx, ih () trivial, List.any_cons]
  cases p x <;> rfl
end Go.Proofs.Ytmnnkeejgkhgpaa
end

section
namespace Go.Proofs.Ytmnnkeejgkhgpaa
set_option linter.unusedVariables false
set_option linter.unusedSimpArgs false

abbrev Nd := S_api_Node
def kidsF (op : Int) : Int := if 1 ≤ op ∧ op ≤ 4 then 0 else if op = 5 then 1 else if 6 ≤ op ∧ op ≤ 14 then 2 else -1
theorem kids_m (n : Nat) (op : Int) : m_expr_kids (n + 1) op = some (kidsF op) := by
  rcases op_cases op with h | h | h | h | h | h | h | h | h | h | h | h | h | h | h | h
  · have : kidsF op = -1 := by unfold kidsF; rw [if_neg (by omega), if_neg (by omega), if_neg (by omega)]
    rw [m_expr_kids, this, bif_not (show ¬ 1 ≤ op by omega), beq_eq_false_iff_ne.2 (show op ≠ 5 by omega), cond_false, bif_not (show ¬ 6 ≤ op by omega)]
  · have : kidsF op = -1 := by unfold kidsF; rw [if_neg (by omega), if_neg (by omega), if_neg (by omega)]
    rw [m_expr_kids, this, bif_decide (show 1 ≤ op by omega), bif_not (show ¬ op ≤ 4 by omega), beq_eq_false_iff_ne.2 (show op ≠ 5 by omega), cond_false, bif_decide (show 6 ≤ op by omega), bif_not (show ¬ op ≤ 14 by omega)]
  all_goals rw [h]; rfl
theorem rkids_m (n : Nat) (op : Int) : m_ref02_kids (n + 1) op = some (kidsF op) := by
  have e : m_ref02_kids (n + 1) op = m_expr_kids (n + 1) op := by
    rw [m_ref02_kids, m_expr_kids]
  rw [e, kids_m]
/-- An expression as a tree. -/
inductive Tr where
  | leaf (x : Nd)
  | un (x : Nd) (a : Tr)
  | bin (x : Nd) (a b : Tr)
def Tr.flat : Tr → List Nd
  | .leaf x => [x]
  | .un x a => x :: a.flat
  | .bin x a b => x :: (a.flat ++ b.flat)
def Tr.wf : Tr → Prop
  | .leaf x => kidsF x.f_Op = 0
  | .un x a => kidsF x.f_Op = 1 ∧ a.wf
  | .bin x a b => kidsF x.f_Op = 2 ∧ a.wf ∧ b.wf
def Tr.dep : Tr → Nat
  | .leaf _ => 0
  | .un _ a => 1 + a.dep
  | .bin _ a b => 1 + max a.dep b.dep
/-- How many nodes so many expressions take. -/
def endF : List Nd → Nat → Option Nat
  | [], _ => none
  | x :: l, w => if kidsF x.f_Op < 0 then none else if (w : Int) + kidsF x.f_Op - 1 = 0 then some 1 else (endF l ((w : Int) + kidsF x.f_Op - 1).toNat).map (· + 1)
def flats : List Tr → List Nd
  | [] => []
  | t :: ts => t.flat ++ flats ts
theorem kids_cases (op : Int) : kidsF op = -1 ∨ kidsF op = 0 ∨ kidsF op = 1 ∨ kidsF op = 2 := by
  unfold kidsF
  repeat' split
  all_goals omega
theorem endF_tr : ∀ (t : Tr) (w : Nat) (rest : List Nd), t.wf → 1 ≤ w → endF (t.flat ++ rest) w = if w = 1 then some t.flat.length else (endF rest (w - 1)).map (· + t.flat.length) := by
  intro t
  induction t with
  | leaf x =>
    intro w rest h hw
    simp only [Tr.wf] at h
    simp only [Tr.flat, List.cons_append, List.nil_append, endF, h, List.length_cons, List.length_nil]
    by_cases c : w = 1
    · rw [if_neg (by omega), if_pos (by omega), if_pos c]
    · rw [if_neg (by omega), if_neg (by omega), if_neg c, show ((w : Int) + 0 - 1).toNat = w - 1 by omega]
  | un x a ih =>
    intro w rest h hw
    obtain ⟨h1, h2⟩ := h
    simp only [Tr.flat, List.cons_append, endF, h1, List.length_cons]
    rw [if_neg (by omega), if_neg (by omega), show ((w : Int) + 1 - 1).toNat = w by omega, ih w rest h2 hw]
    by_cases c : w = 1
    · rw [if_pos c, if_pos c]; rfl
    · rw [if_neg c, if_neg c, Option.map_map]; rfl
  | bin x a b iha ihb =>
    intro w rest h hw
    obtain ⟨h1, h2, h3⟩ := h
    simp only [Tr.flat, List.cons_append, endF, h1, List.length_cons, List.append_assoc, List.length_append]
    rw [if_neg (by omega), if_neg (by omega), show ((w : Int) + 2 - 1).toNat = w + 1 by omega, iha (w + 1) _ h2 (by omega), if_neg (by omega), show w + 1 - 1 = w by omega, ihb w rest h3 hw]
    by_cases c : w = 1
    · rw [if_pos c, if_pos c]; exact congrArg some (by dsimp only; omega)
    · rw [if_neg c, if_neg c, Option.map_map, Option.map_map]; congr 1; funext j; simp only [Function.comp_apply]; try omega
theorem of_endF : ∀ (l : List Nd) (w j : Nat), 1 ≤ w → endF l w = some j → ∃ ts : List Tr, ts.length = w ∧ (∀ t ∈ ts, t.wf) ∧ flats ts = l.take j ∧ j ≤ l.length ∧ 1 ≤ j := by
  intro l
  induction l with
  | nil => intro w j _ h; cases h
  | cons x l ih =>
    intro w j hw h
    rw [endF] at h
    rcases kids_cases x.f_Op with g | g | g | g
    · rw [g, if_pos (by omega)] at h; cases h
    all_goals rw [g] at h; rw [if_neg (by omega)] at h
    · by_cases c : w = 1
      · rw [if_pos (by omega)] at h
        obtain rfl := Option.some.inj h
        exact ⟨[.leaf x], by simp [c], by simpa [Tr.wf] using g, by simp [flats, Tr.flat], by simp, by omega⟩
      · rw [if_neg (by omega)] at h
        obtain ⟨j', h1, h2⟩ := Option.map_eq_some_iff.1 h
        obtain ⟨ts, e1, e2, e3, e4, e5⟩ := ih _ j' (by omega) h1
        subst h2
        exact ⟨.leaf x :: ts, by simp [e1]; omega, by simpa [Tr.wf] using ⟨g, e2⟩, by simp [flats, Tr.flat, e3], by simpa using e4, by omega⟩
    · rw [if_neg (by omega)] at h
      obtain ⟨j', h1, h2⟩ := Option.map_eq_some_iff.1 h
      obtain ⟨ts, e1, e2, e3, e4, e5⟩ := ih _ j' (by omega) h1
      subst h2
      match ts, e1, e2, e3 with
      | [], e1, _, _ => simp at e1; omega
      | t :: ts, e1, e2, e3 =>
        exact ⟨.un x t :: ts, by simp at e1 ⊢; omega, by simpa [Tr.wf, g] using e2, by simp only [flats] at e3; simp [flats, Tr.flat, e3], by simpa using e4, by omega⟩
    · rw [if_neg (by omega)] at h
      obtain ⟨j', h1, h2⟩ := Option.map_eq_some_iff.1 h
      obtain ⟨ts, e1, e2, e3, e4, e5⟩ := ih _ j' (by omega) h1
      subst h2
      match ts, e1, e2, e3 with
      | [], e1, _, _ => simp at e1; omega
      | [t], e1, _, _ => simp at e1; omega
      | t :: u :: ts, e1, e2, e3 =>
        refine ⟨.bin x t u :: ts, by simp at e1 ⊢; omega, ?_, by simp only [flats] at e3; simp [flats, Tr.flat, List.append_assoc, e3], by simpa using e4, by omega⟩
        intro v hv
        rcases List.mem_cons.1 hv with rfl | hv
        · exact ⟨g, e2 t (by simp), e2 u (by simp)⟩
        · exact e2 v (by simp [hv])
theorem of_endF1 {l : List Nd} {j : Nat} (h : endF l 1 = some j) : ∃ t : Tr, t.wf ∧ t.flat = l.take j ∧ j ≤ l.length ∧ 1 ≤ j := by
  obtain ⟨ts, e1, e2, e3, e4, e5⟩ := of_endF l 1 j (by omega) h
  match ts, e1, e2, e3 with
  | [t], _, e2, e3 => exact ⟨t, e2 t (by simp), by simpa [flats] using e3, e4, e5⟩
/-- The place behind the expression at a place. -/
def endS (l : List Nd) (i : Int) : Int := if i < 0 then -1 else match endF (l.drop i.toNat) 1 with
  | some j => i + j
  | none => -1
def outI (d : Int) (r : LR Unit Int) : Int := match r with
  | .out _ => d
  | .ret v => v
theorem end_L (n : Nat) (l : List Nd) (hl : l.length < 1000000) : ∀ (m k i w : Nat), i + m = l.length → m < k → 1 ≤ w → w ≤ i + 2 →
    (expr_End_L0 (n + 1) l k (i : Int) (w : Int)).map (outI (-1)) = some (match endF (l.drop i) w with | some j => (i : Int) + j | none => -1) := by
  intro m
  induction m with
  | zero =>
    intro k i w hi hk hw hb
    obtain ⟨k, rfl⟩ : ∃ j, k = j + 1 := ⟨k - 1, by omega⟩
    rw [expr_End_L0, bif_not (by omega), List.drop_of_length_le (by omega)]; rfl
  | succ m ih =>
    intro k i w hi hk hw hb
    obtain ⟨k, rfl⟩ : ∃ j, k = j + 1 := ⟨k - 1, by omega⟩
    have hlt : i < l.length := by omega
    rw [expr_End_L0, bif_decide (by omega), idx_get hlt, List.drop_eq_getElem_cons hlt, endF, Option.bind_some, kids_m, Option.bind_some, wrap_one i (by omega)]
    rcases kids_cases l[i].f_Op with g | g | g | g
    · rw [g, bif_decide (by omega), if_pos (by omega)]; rfl
    all_goals rw [g, bif_not (by omega), if_neg (by omega)]
    · rw [wrap64 (n := 0 - 1) (by omega), wrap64 (by omega)]
      by_cases c : w = 1
      · subst c; rw [if_pos (by omega)]; rfl
      · rw [if_neg (by omega), beq_eq_false_iff_ne.2 (by omega), cond_false, show (w : Int) + (0 - 1) = ((w - 1 : Nat) : Int) by omega, ih k (i + 1) (w - 1) (by omega) (by omega) (by omega) (by omega), show ((w : Int) + 0 - 1).toNat = w - 1 by omega]
        cases endF (l.drop (i + 1)) (w - 1) with
        | none => rfl
        | some j => exact congrArg some (by show ((i + 1 : Nat) : Int) + (j : Int) = (i : Int) + ((j + 1 : Nat) : Int); omega)
    · rw [wrap64 (n := 1 - 1) (by omega), wrap64 (by omega), if_neg (by omega), beq_eq_false_iff_ne.2 (by omega), cond_false, show (w : Int) + (1 - 1) = (w : Int) by omega, ih k (i + 1) w (by omega) (by omega) (by omega) (by omega), show ((w : Int) + 1 - 1).toNat = w by omega]
      cases endF (l.drop (i + 1)) w with
      | none => rfl
      | some j => exact congrArg some (by show ((i + 1 : Nat) : Int) + (j : Int) = (i : Int) + ((j + 1 : Nat) : Int); omega)
    · rw [wrap64 (n := 2 - 1) (by omega), wrap64 (by omega), if_neg (by omega), beq_eq_false_iff_ne.2 (by omega), cond_false, show (w : Int) + (2 - 1) = ((w + 1 : Nat) : Int) by omega, ih k (i + 1) (w + 1) (by omega) (by omega) (by omega) (by omega), show ((w : Int) + 2 - 1).toNat = w + 1 by omega]
      cases endF (l.drop (i + 1)) (w + 1) with
      | none => rfl
      | some j => exact congrArg some (by show ((i + 1 : Nat) : Int) + (j : Int) = (i : Int) + ((j + 1 : Nat) : Int); omega)
theorem lr_map {τ : Type} {o : Option (LR Unit Int)} {d r : Int} (h : o.map (outI d) = some r) : (o.bind fun o11 => match o11 with | .out _ => some d | .ret v => some v) = some r := by
  obtain ⟨x, rfl, h2⟩ := Option.map_eq_some_iff.1 h
  cases x <;> exact congrArg some h2
theorem end_m (n : Nat) (l : List Nd) (i : Int) (hl : l.length < 1000000) (hn : l.length + 4 < n) : m_expr_End n l i = some (endS l i) := by
  obtain ⟨n, rfl⟩ : ∃ j, n = j + 2 := ⟨n - 2, by omega⟩
  rw [m_expr_End, endS]
  by_cases c : i < 0
  · rw [bif_decide c, if_pos c]
  · rw [bif_not c, if_neg c]
    by_cases c2 : i.toNat ≤ l.length
    · have := end_L n l hl (l.length - i.toNat) (n + 1) i.toNat 1 (by omega) (by omega) (by omega) (by omega)
      rw [show ((i.toNat : Nat) : Int) = i by omega] at this
      exact lr_map (τ := Unit) this
    · have e : expr_End_L0 (n + 1) l (n + 1) i 1 = some (.out ()) := by rw [expr_End_L0, bif_not (by omega)]
      rw [e, List.drop_of_length_le (by omega)]; rfl

theorem rend_L (n : Nat) (l : List Nd) (hl : l.length < 1000000) : ∀ (m k i w : Nat), i + m = l.length → m < k → 1 ≤ w → w ≤ i + 2 →
    (ref02_End_L0 (n + 1) l k (w : Int) (i : Int)).map (outI (-1)) = some (match endF (l.drop i) w with | some j => (i : Int) + j | none => -1) := by
  intro m
  induction m with
  | zero =>
    intro k i w hi hk hw hb
    obtain ⟨k, rfl⟩ : ∃ j, k = j + 1 := ⟨k - 1, by omega⟩
    rw [ref02_End_L0, bif_not (by omega), List.drop_of_length_le (by omega)]; rfl
  | succ m ih =>
    intro k i w hi hk hw hb
    obtain ⟨k, rfl⟩ : ∃ j, k = j + 1 := ⟨k - 1, by omega⟩
    have hlt : i < l.length := by omega
    rw [ref02_End_L0, bif_decide (by omega), idx_get hlt, List.drop_eq_getElem_cons hlt, endF, Option.bind_some, rkids_m, Option.bind_some, wrap_one i (by omega), wrap64 (n := (w : Int) - 1) (by omega)]
    rcases kids_cases l[i].f_Op with g | g | g | g
    · rw [g, bif_decide (by omega), if_pos (by omega)]; rfl
    all_goals rw [g, bif_not (by omega), if_neg (by omega)]
    · rw [wrap64 (by omega)]
      by_cases c : w = 1
      · subst c; rw [if_pos (by omega)]; rfl
      · rw [if_neg (by omega), beq_eq_false_iff_ne.2 (by omega), cond_false, show (w : Int) - 1 + 0 = ((w - 1 : Nat) : Int) by omega, ih k (i + 1) (w - 1) (by omega) (by omega) (by omega) (by omega), show ((w : Int) + 0 - 1).toNat = w - 1 by omega]
        cases endF (l.drop (i + 1)) (w - 1) with
        | none => rfl
        | some j => exact congrArg some (by show ((i + 1 : Nat) : Int) + (j : Int) = (i : Int) + ((j + 1 : Nat) : Int); omega)
    · rw [wrap64 (by omega), if_neg (by omega), beq_eq_false_iff_ne.2 (by omega), cond_false, show (w : Int) - 1 + 1 = (w : Int) by omega, ih k (i + 1) w (by omega) (by omega) (by omega) (by omega), show ((w : Int) + 1 - 1).toNat = w by omega]
      cases endF (l.drop (i + 1)) w with
      | none => rfl
      | some j => exact congrArg some (by show ((i + 1 : Nat) : Int) + (j : Int) = (i : Int) + ((j + 1 : Nat) : Int); omega)
    · rw [wrap64 (by omega), if_neg (by omega), beq_eq_false_iff_ne.2 (by omega), cond_false, show (w : Int) - 1 + 2 = ((w + 1 : Nat) : Int) by omega, ih k (i + 1) (w + 1) (by omega) (by omega) (by omega) (by omega), show ((w : Int) + 2 - 1).toNat = w + 1 by omega]
      cases endF (l.drop (i + 1)) (w + 1) with
      | none => rfl
      | some j => exact congrArg some (by show ((i + 1 : Nat) : Int) + (j : Int) = (i : Int) + ((j + 1 : Nat) : Int); omega)
theorem rend_m (n : Nat) (l : List Nd) (i : Int) (hl : l.length < 1000000) (hn : l.length + 4 < n) : m_ref02_End n l i = some (endS l i) := by
  obtain ⟨n, rfl⟩ : ∃ j, n = j + 2 := ⟨n - 2, by omega⟩
  rw [m_ref02_End, endS]
  by_cases c : i < 0
  · rw [bif_decide c, if_pos c]
  · rw [bif_not c, if_neg c]
    by_cases c2 : i.toNat ≤ l.length
    · have := rend_L n l hl (l.length - i.toNat) (n + 1) i.toNat 1 (by omega) (by omega) (by omega) (by omega)
      rw [show ((i.toNat : Nat) : Int) = i by omega] at this
      exact lr_map (τ := Unit) this
    · have e : ref02_End_L0 (n + 1) l (n + 1) 1 i = some (.out ()) := by rw [ref02_End_L0, bif_not (by omega)]
      rw [e, List.drop_of_length_le (by omega)]; rfl
/-- The end of an expression that stands there. -/
theorem endS_tr {t : Tr} (h : t.wf) (pre post : List Nd) : endS (pre ++ (t.flat ++ post)) (pre.length : Int) = ((pre.length + t.flat.length : Nat) : Int) := by
  rw [endS, if_neg (by omega), Int.toNat_natCast, List.drop_left, endF_tr t 1 post h (by omega), if_pos rfl]; simp

def closeF : List Int → List Int
  | [] => []
  | a :: r => if 0 < a - 1 then (a - 1) :: r else closeF r
def depF : List Nd → Int × List Int → Int × List Int
  | [], s => s
  | x :: l, (m, R) => if 0 < kidsF x.f_Op then depF l (if m < (R.length : Int) then (R.length : Int) else m, kidsF x.f_Op :: R) else depF l (if m < (R.length : Int) then (R.length : Int) else m, closeF R)
theorem depF_tr : ∀ (t : Tr) (rest : List Nd) (m : Int) (R : List Int), t.wf → 0 ≤ m → depF (t.flat ++ rest) (m, R) = depF rest (max m (R.length + t.dep : Nat), closeF R) := by
  intro t
  have hmax : ∀ (m : Int) (k : Nat), (if m < (k : Int) then (k : Int) else m) = max m (k : Int) := by intro m k; split <;> omega
  induction t with
  | leaf x =>
    intro rest m R h hm
    simp only [Tr.wf] at h
    simp only [Tr.flat, List.cons_append, List.nil_append, depF, h, Tr.dep, Nat.add_zero]
    rw [if_neg (by omega), hmax]
  | un x a ih =>
    intro rest m R h hm
    obtain ⟨h1, h2⟩ := h
    simp only [Tr.flat, List.cons_append, depF, h1, Tr.dep]
    rw [if_pos (by omega), hmax, ih _ _ _ h2 (by omega), closeF, if_neg (by omega), List.length_cons]
    congr 2; omega
  | bin x a b iha ihb =>
    intro rest m R h hm
    obtain ⟨h1, h2, h3⟩ := h
    simp only [Tr.flat, List.cons_append, depF, h1, Tr.dep, List.append_assoc]
    rw [if_pos (by omega), hmax, iha _ _ _ h2 (by omega), closeF, if_pos (by omega), ihb _ _ _ h3 (by omega), closeF, if_neg (by omega), List.length_cons, List.length_cons]
    congr 2; omega
theorem close_L (n : Nat) : ∀ (R : List Int) (k : Nat), R.length < k → R.length < 1000000 → (∀ v ∈ R, 1 ≤ v ∧ v ≤ 2) → expr_depth_L1 n k R.reverse = some (.out (closeF R).reverse) := by
  intro R
  induction R with
  | nil =>
    intro k hk _ _
    obtain ⟨k, rfl⟩ : ∃ j, k = j + 1 := ⟨k - 1, by omega⟩
    rw [expr_depth_L1, List.reverse_nil]; rfl
  | cons a R ih =>
    intro k hk hl hv
    obtain ⟨k, rfl⟩ : ∃ j, k = j + 1 := ⟨k - 1, by omega⟩
    have ha := hv a (List.mem_cons_self ..)
    rw [List.length_cons] at hl
    have hlen : (a :: R).reverse.length = R.length + 1 := by simp
    have w : IntKind.i64.wrap (((R.length + 1 : Nat) : Int) - 1) = (R.length : Int) := by rw [wrap64 (by omega)]; omega
    have hset : ∀ v : Int, ((a :: R).reverse).set R.length v = R.reverse ++ [v] := by
      intro v; rw [List.reverse_cons, List.set_append_right _ _ (by simp)]; simp
    have g1 : idx (a :: R).reverse (R.length : Int) = some a := by rw [idx_nat, List.reverse_cons, List.getElem?_append_right (by simp)]; simp
    have g2 : ∀ v : Int, idx (R.reverse ++ [v]) (R.length : Int) = some v := by intro v; rw [idx_nat, List.getElem?_append_right (by simp)]; simp
    rw [expr_depth_L1, hlen, bif_decide (by omega), w, g1]
    simp only [Option.bind_some, Int.toNat_natCast, hset, g2]
    rw [wrap64 (n := a - 1) (by omega), closeF]
    by_cases c : 0 < a - 1
    · rw [bif_decide c, if_pos c, List.reverse_cons]
    · have c2 : (decide (0 ≤ (R.length : Int)) && decide ((R.length : Int) ≤ (((R.reverse ++ [a - 1]).length : Nat) : Int))) = true := by
        rw [decide_eq_true (by omega), decide_eq_true (by simp; omega)]; rfl
      have e : List.take R.length (R.reverse ++ [a - 1]) = R.reverse := by
        rw [List.take_append_of_le_length (by simp), List.take_of_length_le (by simp)]
      rw [bif_not c, if_neg c, c2, cond_true, e]
      exact ih k (by rw [List.length_cons] at hk; omega) (by omega) (fun v h => hv v (List.mem_cons_of_mem _ h))
theorem closeF_ok : ∀ (R : List Int), (∀ v ∈ R, 1 ≤ v ∧ v ≤ 2) → (∀ v ∈ closeF R, 1 ≤ v ∧ v ≤ 2) ∧ (closeF R).length ≤ R.length := by
  intro R
  induction R with
  | nil => intro h; exact ⟨h, Nat.le_refl _⟩
  | cons a R ih =>
    intro h
    have ha := h a (List.mem_cons_self ..)
    have hR : ∀ v ∈ R, 1 ≤ v ∧ v ≤ 2 := fun v hv => h v (List.mem_cons_of_mem _ hv)
    rw [closeF]
    split
    · exact ⟨fun v hv => by rcases List.mem_cons.1 hv with rfl | hv; exact ⟨by omega, by omega⟩; exact hR v hv, by simp⟩
    · exact ⟨(ih hR).1, by have := (ih hR).2; simp; omega⟩
theorem depth_L (n : Nat) (l : List Nd) (hl : l.length < 100000) (hn : l.length + 2 < n) {k : Nat} (hk : l.length < k) : expr_depth_L0 n l k 0 0 [] = some (.out ((depF l (0, [])).1, (depF l (0, [])).2.reverse)) := by
  refine loop_list0 l (fun k i (s : Int × List Int) => expr_depth_L0 n l k s.1 (i : Int) s.2.reverse) (fun l s => some (.out ((depF l s).1, (depF l s).2.reverse)))
    (fun i s => s.2.length ≤ i ∧ ∀ v ∈ s.2, 1 ≤ v ∧ v ≤ 2) (s := (0, [])) hk ⟨Nat.le_refl _, by simp⟩ ?_ ?_
  · intro k s hs
    rw [expr_depth_L0, bif_not (by omega)]; rfl
  · rintro k i ⟨m, R⟩ x hi hx ⟨r1, r2⟩ ih
    dsimp only at r1 r2 ⊢
    obtain ⟨n, rfl⟩ : ∃ j, n = j + 1 := ⟨n - 1, by omega⟩
    rw [expr_depth_L0, bif_decide (by omega), idx_some hx, Option.bind_some, kids_m, Option.bind_some, wrap_one i (by omega), List.length_reverse, depF]
    by_cases c : 0 < kidsF x.f_Op
    · rw [bif_decide c, if_pos c, bif_decide (by omega), ← List.reverse_cons]
      refine ih (_, _ :: R) ⟨by simp; omega, fun v hv => ?_⟩
      rcases List.mem_cons.1 hv with rfl | hv
      · rcases kids_cases x.f_Op with g | g | g | g <;> omega
      · exact r2 v hv
    · have hc := closeF_ok R r2
      rw [bif_not c, if_neg c, close_L (n + 1) R (n + 1) (by omega) (by omega) r2, Option.bind_some]
      exact ih (_, closeF R) ⟨by dsimp only; omega, hc.1⟩
theorem Tr.dep_lt (t : Tr) : t.dep < t.flat.length := by
  induction t with
  | leaf x => simp [Tr.dep, Tr.flat]
  | un x a ih => simp [Tr.dep, Tr.flat]; omega
  | bin x a b iha ihb => simp [Tr.dep, Tr.flat]; omega
theorem deep_tr : ∀ (t : Tr) (n : Nat) (pre post : List Nd), t.wf → (pre ++ (t.flat ++ post)).length < 100000 → (pre ++ (t.flat ++ post)).length + 10 + t.dep < n → m_ref02_deep n (pre ++ (t.flat ++ post)) (pre.length : Int) = some (t.dep : Int) := by
  intro t
  induction t with
  | leaf x =>
    intro n pre post h hl hn
    obtain ⟨n, rfl⟩ : ∃ j, n = j + 3 := ⟨n - 3, by omega⟩
    simp only [Tr.wf] at h
    have g : idx (pre ++ ((Tr.leaf x).flat ++ post)) (pre.length : Int) = some x := by rw [idx_nat, List.getElem?_append_right (by simp)]; simp [Tr.flat]
    rw [m_ref02_deep, ref02_deep_L0, g, Option.bind_some, rkids_m, Option.bind_some, h]; rfl
  | un x a ih =>
    intro n pre post h hl hn
    obtain ⟨n, rfl⟩ : ∃ j, n = j + 4 := ⟨n - 4, by omega⟩
    obtain ⟨h1, h2⟩ := h
    have e : pre ++ ((Tr.un x a).flat ++ post) = (pre ++ [x]) ++ (a.flat ++ post) := by simp [Tr.flat]
    have hp : ((pre ++ [x]).length : Int) = (pre.length : Int) + 1 := by simp
    rw [e] at hl hn ⊢
    simp only [Tr.dep] at hn
    have g : idx ((pre ++ [x]) ++ (a.flat ++ post)) (pre.length : Int) = some x := by rw [idx_nat, List.append_assoc, List.getElem?_append_right (by simp)]; simp
    have i1 := ih (n + 3) (pre ++ [x]) post h2 hl (by omega)
    have ee := endS_tr h2 (pre ++ [x]) post
    have hd := a.dep_lt
    simp only [List.length_append, List.length_cons, List.length_nil] at hl hn
    rw [hp] at i1 ee
    rw [m_ref02_deep, ref02_deep_L0, g, Option.bind_some, rkids_m, Option.bind_some, h1, bif_decide (by omega), wrap64 (n := (pre.length : Int) + 1) (by omega), i1, Option.bind_some, rend_m _ _ _ (by simp; omega) (by simp; omega), Option.bind_some, wrap64 (by omega), wrap64 (by omega)]
    rw [ref02_deep_L0, g, Option.bind_some, rkids_m, Option.bind_some, h1, bif_not (by omega)]
    simp only [Option.bind_some, Tr.dep]
    congr 1
    split <;> omega
  | bin x a b iha ihb =>
    intro n pre post h hl hn
    obtain ⟨n, rfl⟩ : ∃ j, n = j + 5 := ⟨n - 5, by omega⟩
    obtain ⟨h1, h2, h3⟩ := h
    have e : pre ++ ((Tr.bin x a b).flat ++ post) = (pre ++ [x]) ++ (a.flat ++ (b.flat ++ post)) := by simp [Tr.flat]
    have e2 : (pre ++ [x]) ++ (a.flat ++ (b.flat ++ post)) = (pre ++ [x] ++ a.flat) ++ (b.flat ++ post) := by simp
    have hp : ((pre ++ [x]).length : Int) = (pre.length : Int) + 1 := by simp
    have hp2 : ((pre ++ [x] ++ a.flat).length : Int) = ((pre ++ [x]).length + a.flat.length : Nat) := by simp; omega
    rw [e] at hl hn ⊢
    simp only [Tr.dep] at hn
    have g : idx ((pre ++ [x]) ++ (a.flat ++ (b.flat ++ post))) (pre.length : Int) = some x := by rw [idx_nat, List.append_assoc, List.getElem?_append_right (by simp)]; simp
    have i1 := iha (n + 4) (pre ++ [x]) (b.flat ++ post) h2 hl (by omega)
    have i2 := ihb (n + 4) (pre ++ [x] ++ a.flat) post h3 (by rw [← e2]; exact hl) (by rw [← e2]; omega)
    have ee := endS_tr h2 (pre ++ [x]) (b.flat ++ post)
    have ee2 := endS_tr h3 (pre ++ [x] ++ a.flat) post
    rw [← e2, hp2] at i2 ee2
    have hd := a.dep_lt
    have hd2 := b.dep_lt
    simp only [List.length_append, List.length_cons, List.length_nil] at hl hn ee2 i2
    rw [hp] at i1 ee
    rw [m_ref02_deep, ref02_deep_L0, g, Option.bind_some, rkids_m, Option.bind_some, h1, bif_decide (by omega), wrap64 (n := (pre.length : Int) + 1) (by omega), i1, Option.bind_some, rend_m _ _ _ (by simp; omega) (by simp; omega), Option.bind_some, wrap64 (n := 1 + (a.dep : Int)) (by omega), wrap64 (n := 0 + 1) (by omega), ee]
    rw [ref02_deep_L0, g, Option.bind_some, rkids_m, Option.bind_some, h1, bif_decide (by omega)]
    simp only [List.length_append, List.length_cons, List.length_nil]
    rw [i2, Option.bind_some, rend_m _ _ _ (by simp; omega) (by simp; omega), Option.bind_some, wrap64 (n := 1 + (b.dep : Int)) (by omega), wrap64 (by omega)]
    rw [ref02_deep_L0, g, Option.bind_some, rkids_m, Option.bind_some, h1, bif_not (by omega)]
    simp only [Option.bind_some, Tr.dep]
    congr 1
    repeat' split
    all_goals omega
end Go.Proofs.Ytmnnkeejgkhgpaa
end

section
namespace Go.Proofs.Ytmnnkeejgkhgpaa
set_option linter.unusedVariables false
set_option linter.unusedSimpArgs false

theorem rletter_m (n : Nat) (c : Int) : m_ref01_letter (n + 1) c = some (letterB c) := by
  rw [m_ref01_letter]
  by_cases h1 : 97 ≤ c <;> by_cases h2 : c ≤ 122 <;> by_cases h3 : 65 ≤ c <;> by_cases h4 : c ≤ 90 <;> simp [letterB, h1, h2, h3, h4] <;> (by_cases h5 : c = 95 <;> simp [h5])
theorem rdigit_m (n : Nat) (c : Int) : m_ref01_digit (n + 1) c = some (digitB c) := by
  rw [m_ref01_digit]
  by_cases h1 : 48 ≤ c <;> simp [digitB, h1]
theorem rkw_m (n : Nat) (s : List UInt8) (hn : 30 < n) : m_ref01_Keyword n s = some (kwB s) := by
  obtain ⟨n, rfl⟩ : ∃ j, n = j + 2 := ⟨n - 2, by omega⟩
  rw [m_ref01_Keyword, m_ref01_words, Option.bind_some]
  have := any_list kws (fun k i => ref01_Keyword_L0 (n + 1) s kws k (i : Int)) (fun x => x == s) (fun k => ?_) (fun k i x hi hx => ?_) (k := n + 1) (by have : kws.length = 21 := rfl; omega)
  · have e : kws.any (fun x => x == s) = kwB s := by
      rw [kwB, List.contains_eq_any_beq]; congr 1; funext x; rw [BEq.comm]
    rw [e] at this
    have this : ref01_Keyword_L0 (n + 1) s kws (n + 1) 0 = _ := this
    show (ref01_Keyword_L0 (n + 1) s kws (n + 1) 0).bind _ = _
    rw [this]
    cases kwB s <;> rfl
  · rw [ref01_Keyword_L0, bif_not (by omega)]
  · have : kws.length = 21 := rfl
    rw [ref01_Keyword_L0, bif_decide (by omega), idx_some hx, Option.bind_some, wrap_one i (by omega)]
theorem rname_m (n : Nat) (s : List UInt8) (hn : s.length + 40 < n) (hs : s.length < 1000000) : m_ref01_Name n s = some (nameB s) := by
  obtain ⟨n, rfl⟩ : ∃ j, n = j + 2 := ⟨n - 2, by omega⟩
  rw [m_ref01_Name]
  by_cases c1 : (s.length : Int) < 1
  · have : s = [] := List.length_eq_zero_iff.1 (by omega)
    subst this; rw [bif_decide c1]; rfl
  by_cases c2 : 16 < (s.length : Int)
  · rw [bif_not c1, bif_decide c2, nameB, decide_eq_false (show ¬ s.length ≤ 16 by omega)]; simp
  rw [bif_not c1, bif_not c2]
  obtain ⟨c, r, rfl⟩ : ∃ c r, s = c :: r := by
    cases s with
    | nil => simp at c1
    | cons c r => exact ⟨c, r, rfl⟩
  have g : idx (c :: r) 0 = some c := rfl
  rw [g, Option.bind_some, rletter_m, Option.bind_some]
  cases hl : letterB (c.toNat : Int) with
  | false =>
    have : nameB (c :: r) = false := nameB_bad (k := 0) (by simp) (by simp [nameAt, hl])
    rw [this]; rfl
  | true =>
    rw [rkw_m _ _ (by omega)]
    simp only [cond_true, Option.bind_some]
    cases hk : kwB (c :: r) with
    | true => simp [nameB, hk]
    | false =>
      have hL : ref01_Name_L0 (n + 1) (c :: r) (n + 1) 0 = bif (c :: r).all (fun x => letterB (x.toNat : Int) || digitB (x.toNat : Int)) then some (.out ()) else some (.ret false) := by
        refine all_list (c :: r) (fun k i => ref01_Name_L0 (n + 1) (c :: r) k (i : Int)) _ (fun k => ?_) (fun k i x hi hx => ?_) (by omega)
        · rw [ref01_Name_L0, bif_not (by omega)]
        · rw [ref01_Name_L0, bif_decide (by omega), idx_some hx, Option.bind_some, rletter_m, Option.bind_some, Option.bind_some, rdigit_m, Option.bind_some, wrap_one i (by omega)]
          cases letterB (x.toNat : Int) <;> rfl
      have e : nameB (c :: r) = (c :: r).all (fun x => letterB (x.toNat : Int) || digitB (x.toNat : Int)) := by
        have e1 : nameB (c :: r) = (List.range (c :: r).length).all (nameAt (c :: r)) := by
          rw [nameB, hk, decide_eq_true (by omega)]; simp
        rw [e1, Bool.eq_iff_iff, List.all_eq_true, List.all_eq_true]
        constructor
        · intro h x hx
          obtain ⟨i, hi, rfl⟩ := List.mem_iff_getElem.1 hx
          have := h i (by simpa using hi)
          simp only [nameAt, List.getElem?_eq_getElem hi] at this
          revert this
          cases letterB _ <;> cases digitB _ <;> simp
        · intro h i hi
          have hi : i < (c :: r).length := by simpa using hi
          have := h _ (List.getElem_mem hi)
          simp only [nameAt, List.getElem?_eq_getElem hi]
          cases i with
          | zero => simp [hl]
          | succ i => simpa using this
      rw [cond_false, hL, ← e]
      cases nameB (c :: r) <;> rfl
/-- Has a node what its operator asks? -/
def nodeOk (x : Nd) : Bool := !decide (x.f_At < 0) && (if x.f_Op = 1 then decide (0 ≤ x.f_N ∧ x.f_N ≤ 9999) && (x.f_Name == [] && x.f_In == [])
  else if x.f_Op = 2 ∨ x.f_Op = 3 then x.f_N == 0 && (nameB x.f_Name && x.f_In == []) else if x.f_Op = 4 then x.f_N == 0 && (nameB x.f_Name && nameB x.f_In) else x.f_N == 0 && (x.f_Name == [] && x.f_In == []))
theorem fits_m (n : Nat) (x : Nd) : m_expr_fits (n + 2) x = some (nodeOk x) := by
  rw [m_expr_fits, nodeOk]
  by_cases c : x.f_At < 0
  · rw [bif_decide c, decide_eq_true c]; rfl
  rw [bif_not c, decide_eq_false c]
  simp only [m_scan_Name, Option.bind_some, beq_self_eq_true, Bool.true_and, Bool.and_true, Bool.not_false]
  by_cases c1 : x.f_Op = 1
  · rw [if_pos c1, c1]
    simp only [beq_self_eq_true, cond_true]
    cases (x.f_Name == []) <;> cases (x.f_In == []) <;> by_cases h : 0 ≤ x.f_N <;> by_cases h2 : x.f_N ≤ 9999 <;> simp [h, h2]
  rw [if_neg c1, beq_eq_false_iff_ne.2 c1]
  by_cases c4 : x.f_Op = 4
  · rw [if_neg (by omega), if_pos c4, c4]
    simp only [beq_self_eq_true, cond_true, cond_false]
    cases nameB x.f_In <;> cases nameB x.f_Name <;> cases (x.f_N == 0) <;> rfl
  rw [if_neg c4, beq_eq_false_iff_ne.2 c4]
  by_cases c2 : x.f_Op = 2
  · rw [if_pos (.inl c2), c2]
    simp only [beq_self_eq_true, cond_true, cond_false]
    cases nameB x.f_Name <;> cases (x.f_N == 0) <;> cases (x.f_In == []) <;> rfl
  rw [beq_eq_false_iff_ne.2 c2]
  by_cases c3 : x.f_Op = 3
  · rw [if_pos (.inr c3), c3]
    simp only [beq_self_eq_true, cond_true, cond_false]
    cases nameB x.f_Name <;> cases (x.f_N == 0) <;> cases (x.f_In == []) <;> rfl
  rw [if_neg (by omega), beq_eq_false_iff_ne.2 c3]
  rfl
theorem rnode_m (n : Nat) (x : Nd) (hn : x.f_Name.length + 50 < n) (hn2 : x.f_In.length + 50 < n) (h1 : x.f_Name.length < 1000000) (h2 : x.f_In.length < 1000000) : m_ref02_node n x = some (nodeOk x) := by
  obtain ⟨n, rfl⟩ : ∃ j, n = j + 1 := ⟨n - 1, by omega⟩
  rw [m_ref02_node, nodeOk]
  by_cases c : x.f_At < 0
  · rw [bif_decide c, decide_eq_true c]; rfl
  rw [bif_not c, decide_eq_false c, rname_m n x.f_Name (by omega) h1, rname_m n x.f_In (by omega) h2]
  simp only [Option.bind_some, Bool.not_false, Bool.true_and]
  by_cases c1 : x.f_Op = 1
  · rw [if_pos c1, c1]
    simp only [beq_self_eq_true, cond_true]
    cases (x.f_Name == []) <;> cases (x.f_In == []) <;> by_cases h : 0 ≤ x.f_N <;> by_cases h2 : x.f_N ≤ 9999 <;> simp [h, h2]
  rw [if_neg c1, beq_eq_false_iff_ne.2 c1]
  by_cases c2 : x.f_Op = 2
  · rw [if_pos (.inl c2), c2]
    simp only [beq_self_eq_true, cond_true, cond_false]
    cases nameB x.f_Name <;> cases (x.f_N == 0) <;> rfl
  rw [beq_eq_false_iff_ne.2 c2]
  by_cases c3 : x.f_Op = 3
  · rw [if_pos (.inr c3), c3]
    simp only [beq_self_eq_true, cond_true, cond_false]
    cases nameB x.f_Name <;> cases (x.f_N == 0) <;> rfl
  rw [if_neg (by omega), beq_eq_false_iff_ne.2 c3]
  by_cases c4 : x.f_Op = 4
  · rw [if_pos c4, c4]
    simp only [beq_self_eq_true, cond_true, cond_false]
    cases nameB x.f_Name <;> cases (x.f_N == 0) <;> rfl
  rw [if_neg c4, beq_eq_false_iff_ne.2 c4]
  cases (x.f_Name == []) <;> cases (x.f_N == 0) <;> rfl
/-- May an expression be? -/
def exprOk (l : List Nd) : Bool := decide (1 ≤ l.length ∧ l.length ≤ 200) && (decide (endF l 1 = some l.length) && (l.all nodeOk && decide ((depF l (0, [])).1 ≤ 30)))
theorem depth_m2 (n : Nat) (l : List Nd) (hl : l.length < 100000) (hn : l.length + 4 < n) : m_expr_depth n l = some (depF l (0, [])).1 := by
  obtain ⟨n, rfl⟩ : ∃ j, n = j + 1 := ⟨n - 1, by omega⟩
  rw [m_expr_depth, depth_L n l hl (by omega) (by omega)]; rfl
theorem endS0 (l : List Nd) (hl : 1 ≤ l.length) : (endS l 0 != (l.length : Int)) = !decide (endF l 1 = some l.length) := by
  have e : endS l 0 = match endF l 1 with | some j => ((j : Nat) : Int) | none => -1 := by
    rw [endS, if_neg (by omega)]
    show (match endF l 1 with | some j => (0 : Int) + (j : Int) | none => -1) = _
    cases endF l 1 with
    | none => rfl
    | some j => simp
  rw [e]
  cases endF l 1 with
  | none =>
    show ((-1 : Int) != (l.length : Int)) = _
    rw [bne_iff_ne.2 (by omega)]; simp
  | some j =>
    show (((j : Nat) : Int) != (l.length : Int)) = _
    rw [natNe]
    by_cases h : j = l.length <;> simp [h]
theorem eright_m (n : Nat) (l : List Nd) (hl : l.length < 100000) (hn : l.length + 20 < n) : m_expr_Right n l = some (exprOk l) := by
  obtain ⟨n, rfl⟩ : ∃ j, n = j + 3 := ⟨n - 3, by omega⟩
  rw [m_expr_Right, exprOk]
  by_cases c1 : l.length = 0
  · rw [beq_iff_eq.2 (show ((l.length : Nat) : Int) = 0 by omega), decide_eq_false (show ¬ (1 ≤ l.length ∧ l.length ≤ 200) by omega)]; rfl
  rw [beq_eq_false_iff_ne.2 (show ((l.length : Nat) : Int) ≠ 0 by omega)]
  by_cases c2 : 200 < (l.length : Int)
  · rw [bif_decide c2, decide_eq_false (show ¬ (1 ≤ l.length ∧ l.length ≤ 200) by omega)]; rfl
  have hL : expr_Right_L0 (n + 2) l (n + 2) 0 = bif l.all nodeOk then some (.out ()) else some (.ret false) := by
    refine all_list l (fun k i => expr_Right_L0 (n + 2) l k (i : Int)) _ (fun k => ?_) (fun k i x hi hx => ?_) (by omega)
    · rw [expr_Right_L0, bif_not (by omega)]
    · rw [expr_Right_L0, bif_decide (by omega), idx_some hx, Option.bind_some, fits_m, Option.bind_some, wrap_one i (by omega)]
  rw [bif_not c2, end_m (n + 2) l 0 (by omega) (by omega), Option.bind_some, endS0 l (by omega), hL, decide_eq_true (show 1 ≤ l.length ∧ l.length ≤ 200 by omega)]
  simp only [cond_false, depth_m2 (n + 2) l hl (by omega)]
  cases decide (endF l 1 = some l.length) with
  | false => rfl
  | true => cases l.all nodeOk <;> rfl
def lightE (l : List Nd) : Bool := decide (l.length ≤ 250) && l.all fun x => decide (x.f_Name.length ≤ 100 ∧ x.f_In.length ≤ 100)
theorem rlightE_m (n : Nat) (l : List Nd) (hn : 260 < n) : m_ref02_Light n l = some (lightE l) := by
  obtain ⟨n, rfl⟩ : ∃ j, n = j + 1 := ⟨n - 1, by omega⟩
  rw [m_ref02_Light, lightE]
  by_cases c : 250 < (l.length : Int)
  · rw [bif_decide c, decide_eq_false (by omega)]; rfl
  have hL : ref02_Light_L0 n l n 0 = bif l.all (fun x => decide (x.f_Name.length ≤ 100 ∧ x.f_In.length ≤ 100)) then some (.out ()) else some (.ret false) := by
    refine all_list l (fun k i => ref02_Light_L0 n l k (i : Int)) _ (fun k => ?_) (fun k i x hi hx => ?_) (by omega)
    · rw [ref02_Light_L0, bif_not (by omega)]
    · rw [ref02_Light_L0, bif_decide (by omega), idx_some hx, Option.bind_some, Option.bind_some, wrap_one i (by omega)]
      by_cases h1 : 100 < (x.f_Name.length : Int)
      · rw [bif_decide h1, bif_not (by omega)]
      · by_cases h2 : 100 < (x.f_In.length : Int)
        · rw [bif_not h1, bif_decide h2, bif_not (by omega)]
        · rw [bif_not h1, bif_not h2, bif_decide (by omega)]
  rw [bif_not c, hL, decide_eq_true (by omega)]
  cases List.all l _ <;> rfl
theorem rright_e (n : Nat) (l : List Nd) (hl : lightE l = true) (hn : 500 < n) : m_ref02_Right n l = some (exprOk l) := by
  simp only [lightE, Bool.and_eq_true, decide_eq_true_eq, List.all_eq_true] at hl
  obtain ⟨n, rfl⟩ : ∃ j, n = j + 3 := ⟨n - 3, by omega⟩
  rw [m_ref02_Right, exprOk]
  by_cases c2 : 200 < (l.length : Int)
  · rw [bif_decide c2, decide_eq_false (show ¬ (1 ≤ l.length ∧ l.length ≤ 200) by omega)]; rfl
  rw [bif_not c2]
  by_cases c1 : l.length = 0
  · rw [beq_iff_eq.2 (show ((l.length : Nat) : Int) = 0 by omega), decide_eq_false (show ¬ (1 ≤ l.length ∧ l.length ≤ 200) by omega)]; rfl
  rw [beq_eq_false_iff_ne.2 (show ((l.length : Nat) : Int) ≠ 0 by omega)]
  have hL : ref02_Right_L0 (n + 2) l (n + 2) 0 = bif l.all nodeOk then some (.out ()) else some (.ret false) := by
    refine all_list l (fun k i => ref02_Right_L0 (n + 2) l k (i : Int)) _ (fun k => ?_) (fun k i x hi hx => ?_) (by omega)
    · rw [ref02_Right_L0, bif_not (by omega)]
    · have := hl.2 x (List.mem_of_getElem? hx)
      rw [ref02_Right_L0, bif_decide (by omega), idx_some hx, Option.bind_some, rnode_m _ x (by omega) (by omega) (by omega) (by omega), Option.bind_some, wrap_one i (by omega)]
  rw [rend_m (n + 2) l 0 (by omega) (by omega), Option.bind_some, endS0 l (by omega), hL, decide_eq_true (show 1 ≤ l.length ∧ l.length ≤ 200 by omega)]
  simp only [cond_false]
  by_cases he : endF l 1 = some l.length
  · rw [decide_eq_true he]
    cases l.all nodeOk with
    | false => rfl
    | true =>
      obtain ⟨t, h1, h2, _, _⟩ := of_endF1 he
      rw [List.take_length] at h2
      have hd := t.dep_lt
      have e1 : m_ref02_deep (n + 2) l 0 = some (t.dep : Int) := by
        have := deep_tr t (n + 2) [] [] h1 (by simp [h2]; omega) (by simp [h2]; rw [h2] at hd; omega)
        simpa [h2] using this
      have e2 : (depF l (0, [])).1 = (t.dep : Int) := by
        have := depF_tr t [] 0 [] h1 (by omega)
        rw [List.append_nil, h2] at this
        rw [this]; simp [depF]
      simp only [Bool.not_true, cond_false, cond_true, Option.bind_some, e1, e2, Bool.true_and]
  · rw [decide_eq_false he]; rfl
end Go.Proofs.Ytmnnkeejgkhgpaa
end

section
namespace Go.Proofs.Ytmnnkeejgkhgpaa
set_option linter.unusedVariables false
set_option linter.unusedSimpArgs false

/-- What an operator takes. -/
def takes (op : Int) : Int := if 1 ≤ op ∧ op ≤ 4 then 0 else if op = 5 then 1 else if 6 ≤ op ∧ op ≤ 14 then 2 else 1000000
def yv : R_code_of → Int × Bool
  | .c0 x | .c1 x | .c2 x | .c3 x | .c4 x | .c5 x | .c6 x | .c7 x | .c8 x | .c9 x | .c10 x => x
theorem of_yv (n : Nat) (op : Int) : ∃ y, m_code_of (n + 1) op = some y ∧ yv y = (if 1 ≤ op ∧ op ≤ 4 ∨ op < 5 ∨ 15 ≤ op then 0 else takes op, decide (5 ≤ op ∧ op ≤ 14)) := by
  rcases op_cases op with h | h | h | h | h | h | h | h | h | h | h | h | h | h | h | h
  · refine ⟨.c0 (0, false), by rw [m_code_of, bif_decide (by omega)], ?_⟩
    rw [if_pos (by omega), decide_eq_false (by omega)]; rfl
  · refine ⟨.c0 (0, false), by rw [m_code_of, bif_not (by omega), bif_decide (by omega)], ?_⟩
    rw [if_pos (by omega), decide_eq_false (by omega)]; rfl
  all_goals subst h; exact ⟨_, rfl, by decide⟩
end Go.Proofs.Ytmnnkeejgkhgpaa
end

section
namespace Go.Proofs.Ytmnnkeejgkhgpaa
set_option linter.unusedVariables false
set_option linter.unusedSimpArgs false

def inR (mod v : Int) : Prop := 0 ≤ v ∧ v < mod
structure Good (mod : Int) (own : List Int) (all : List (List Int)) (mem : List Int) : Prop where
  h : 2 ≤ mod ∧ mod ≤ 16
  own : ∀ v ∈ own, inR mod v
  all : ∀ r ∈ all, ∀ v ∈ r, inR mod v
  mem : ∀ v ∈ mem, inR mod v
theorem take_set {α : Type} (v : α) : ∀ (l : List α) (n : Nat), n < l.length → List.take (n + 1) (l.set n v) = l.take n ++ [v]
  | [], n, h => by simp at h
  | a :: l, 0, h => by simp
  | a :: l, n + 1, h => by
    rw [List.set_cons_succ, List.take_succ_cons, List.take_succ_cons, take_set v l n (by simpa using h)]; rfl
end Go.Proofs.Ytmnnkeejgkhgpaa
end

section
namespace Go.Proofs.Ytmnnkeejgkhgpaa
set_option linter.unusedVariables false
set_option linter.unusedSimpArgs false

abbrev Str := List UInt8
/-- The first place of something that is so. -/
def findF {α : Type} (p : α → Bool) : List α → Nat → Option Nat
  | [], _ => none
  | x :: l, i => bif p x then some i else findF p l (i + 1)
theorem findF_lt {α : Type} {p : α → Bool} : ∀ {l : List α} {i j : Nat}, findF p l i = some j → i ≤ j ∧ j < i + l.length ∧ ∃ x, l[j - i]? = some x ∧ p x = true := by
  intro l
  induction l with
  | nil => intro i j h; cases h
  | cons x l ih =>
    intro i j h
    rw [findF] at h
    cases hp : p x with
    | true =>
      rw [hp] at h
      obtain rfl : i = j := Option.some.inj h
      exact ⟨Nat.le_refl _, by simp, x, by simp, hp⟩
    | false =>
      rw [hp] at h
      obtain ⟨h1, h2, y, h3, h4⟩ := ih h
      refine ⟨by omega, by simp; omega, y, ?_, h4⟩
      rw [show j - i = (j - (i + 1)) + 1 by omega, List.getElem?_cons_succ]; exact h3
theorem find_list {α τ : Type} (l : List α) (L : Nat → Nat → Option (LR Unit τ)) (p : α → Bool) (g : Nat → α → Option (LR Unit τ)) (h0 : ∀ k, L (k + 1) l.length = some (.out ()))
    (h1 : ∀ k i x, i < l.length → l[i]? = some x → L (k + 1) i = bif p x then g i x else L k (i + 1)) :
    ∀ (m k i : Nat), i + m = l.length → m < k → L k i = match findF p (l.drop i) i with | some j => (match l[j]? with | some x => g j x | none => none) | none => some (.out ()) := by
  intro m
  induction m with
  | zero =>
    intro k i hi hk
    obtain ⟨k, rfl⟩ : ∃ j, k = j + 1 := ⟨k - 1, by omega⟩
    obtain rfl : i = l.length := by omega
    rw [h0, List.drop_length]; rfl
  | succ m ih =>
    intro k i hi hk
    obtain ⟨k, rfl⟩ : ∃ j, k = j + 1 := ⟨k - 1, by omega⟩
    have hlt : i < l.length := by omega
    rw [h1 k i l[i] hlt (List.getElem?_eq_getElem hlt), ih k (i + 1) (by omega) (by omega), List.drop_eq_getElem_cons hlt, findF]
    cases hp : p l[i] with
    | true => simp only [cond_true, List.getElem?_eq_getElem hlt]
    | false => rfl
def indexF (l : List Str) (name : Str) : Int := match findF (fun x => x == name) l 0 with
  | some i => (i : Int)
  | none => -1
theorem index_m (n : Nat) (l : List Str) (name : Str) (hl : l.length < 1000000) (hn : l.length + 1 < n) : m_legal_Index n l name = some (indexF l name) := by
  obtain ⟨n, rfl⟩ : ∃ j, n = j + 1 := ⟨n - 1, by omega⟩
  have h := find_list l (fun k i => legal_Index_L0 n l name k (i : Int)) (fun x => x == name) (fun i _ => some (.ret (i : Int))) (fun k => by rw [legal_Index_L0, bif_not (by omega)]) (fun k i x hi hx => by
    rw [legal_Index_L0, bif_decide (by omega), idx_some hx, Option.bind_some, wrap_one i (by omega)]) l.length n 0 (by omega) (by omega)
  have h : legal_Index_L0 n l name n 0 = _ := h
  rw [m_legal_Index, h, indexF, List.drop_zero]
  cases hf : findF (fun x => x == name) l 0 with
  | none => rfl
  | some j =>
    obtain ⟨_, h2, x, h3, _⟩ := findF_lt hf
    rw [Nat.sub_zero] at h3
    simp only [h3]; rfl
theorem rindex_m (n : Nat) (l : List Str) (name : Str) (hl : l.length < 1000000) (hn : l.length + 1 < n) : m_ref05_Index n l name = some (indexF l name) := by
  obtain ⟨n, rfl⟩ : ∃ j, n = j + 1 := ⟨n - 1, by omega⟩
  have h := find_list l (fun k i => ref05_Index_L0 n l name k (i : Int)) (fun x => x == name) (fun i _ => some (.ret (i : Int))) (fun k => by rw [ref05_Index_L0, bif_not (by omega)]) (fun k i x hi hx => by
    rw [ref05_Index_L0, bif_decide (by omega), idx_some hx, Option.bind_some, wrap_one i (by omega)]) l.length n 0 (by omega) (by omega)
  have h : ref05_Index_L0 n l name n 0 = _ := h
  rw [m_ref05_Index, h, indexF, List.drop_zero]
  cases hf : findF (fun x => x == name) l 0 with
  | none => rfl
  | some j =>
    obtain ⟨_, h2, x, h3, _⟩ := findF_lt hf
    rw [Nat.sub_zero] at h3
    simp only [h3]; rfl
theorem locs_m (n : Nat) (p : S_api_Prog) (hl : p.f_Locs.length < 1000000) (hn : p.f_Locs.length + 1 < n) : m_legal_Locs n p = some (p.f_Locs.map (·.f_Name)) := by
  obtain ⟨n, rfl⟩ : ∃ j, n = j + 1 := ⟨n - 1, by omega⟩
  have : legal_Locs_L0 n p n 0 [] = some (.out (p.f_Locs.map (·.f_Name))) := by
    refine map_list p.f_Locs _ (fun k i r => legal_Locs_L0 n p k (i : Int) r) (fun k r => ?_) (fun k i x r hi hx hr => ?_) (by omega)
    · rw [legal_Locs_L0, bif_not (by omega)]
    · rw [legal_Locs_L0, bif_decide (by omega), idx_some hx, Option.bind_some, bif_decide (by omega), wrap_one i (by omega)]
  rw [m_legal_Locs, this]; rfl
theorem rlocs_m (n : Nat) (p : S_api_Prog) (hl : p.f_Locs.length < 1000000) (hn : p.f_Locs.length + 1 < n) : m_ref05_Locs n p = some (p.f_Locs.map (·.f_Name)) := by
  obtain ⟨n, rfl⟩ : ∃ j, n = j + 1 := ⟨n - 1, by omega⟩
  have : ref05_Locs_L0 n p n 0 [] = some (.out (p.f_Locs.map (·.f_Name))) := by
    refine map_list p.f_Locs _ (fun k i r => ref05_Locs_L0 n p k (i : Int) r) (fun k r => ?_) (fun k i x r hi hx hr => ?_) (by omega)
    · rw [ref05_Locs_L0, bif_not (by omega)]
    · rw [ref05_Locs_L0, bif_decide (by omega), idx_some hx, Option.bind_some, bif_decide (by omega), wrap_one i (by omega)]
  rw [m_ref05_Locs, this]; rfl
theorem rthreads_m (n : Nat) (p : S_api_Prog) (hl : p.f_Threads.length < 1000000) (hn : p.f_Threads.length + 1 < n) : m_ref05_Threads n p = some (p.f_Threads.map (·.f_Name)) := by
  obtain ⟨n, rfl⟩ : ∃ j, n = j + 1 := ⟨n - 1, by omega⟩
  have : ref05_Threads_L0 n p n 0 [] = some (.out (p.f_Threads.map (·.f_Name))) := by
    refine map_list p.f_Threads _ (fun k i r => ref05_Threads_L0 n p k (i : Int) r) (fun k r => ?_) (fun k i x r hi hx hr => ?_) (by omega)
    · rw [ref05_Threads_L0, bif_not (by omega)]
    · rw [ref05_Threads_L0, bif_decide (by omega), idx_some hx, Option.bind_some, bif_decide (by omega), wrap_one i (by omega)]
  rw [m_ref05_Threads, this]; rfl

def codeT (lf : Nd → OpS) : Tr → List OpS
  | .leaf x => [lf x]
  | .un x a => codeT lf a ++ [⟨x.f_Op, 0, 0⟩]
  | .bin x a b => codeT lf a ++ codeT lf b ++ [⟨x.f_Op, 0, 0⟩]
def okT (ok : Nd → Bool) : Tr → Bool
  | .leaf x => ok x
  | .un _ a => okT ok a
  | .bin _ a b => okT ok a && okT ok b
theorem codeT_len (lf : Nd → OpS) (t : Tr) : (codeT lf t).length = t.flat.length := by
  induction t with
  | leaf x => rfl
  | un x a ih => simp [codeT, Tr.flat, ih]
  | bin x a b iha ihb => simp [codeT, Tr.flat, iha, ihb]; omega
/-- The leaf of a thread's code. -/
def leafT (regs : List Str) (x : Nd) : OpS × Bool := if x.f_Op = 1 then (⟨1, x.f_N, 0⟩, true) else (⟨2, indexF regs x.f_Name, 0⟩, x.f_Op == 2 && indexF regs x.f_Name != -1)
theorem leafT_m (n : Nat) (regs : List Str) (x : Nd) (hl : regs.length < 1000000) (hn : regs.length + 3 < n) : m_code_Thread_1 n x regs = some (leafT regs x) := by
  obtain ⟨n, rfl⟩ : ∃ j, n = j + 1 := ⟨n - 1, by omega⟩
  rw [m_code_Thread_1, leafT, index_m n regs _ hl (by omega)]
  by_cases c : x.f_Op = 1
  · rw [if_pos c, beq_iff_eq.2 c]; rfl
  · rw [if_neg c, beq_eq_false_iff_ne.2 c]
    by_cases c2 : x.f_Op = 2
    · rw [c2]; rfl
    · rw [beq_eq_false_iff_ne.2 c2]; rfl
theorem nodeL1 : @code_maker_node_L1 = @code_maker_node_L0 := by
  funext n r l o y k; induction k with
  | zero => funext a b c d; rfl
  | succ k ih => funext a b c d; rw [code_maker_node_L1, code_maker_node_L0, ih]
theorem nodeL2 : @code_maker_node_L2 = @code_maker_node_L0 := by
  funext n r l o y k; induction k with
  | zero => funext a b c d; rfl
  | succ k ih => funext a b c d; rw [code_maker_node_L2, code_maker_node_L0, ih]
theorem nodeL3 : @code_maker_node_L3 = @code_maker_node_L0 := by
  funext n r l o y k; induction k with
  | zero => funext a b c d; rfl
  | succ k ih => funext a b c d; rw [code_maker_node_L3, code_maker_node_L0, ih]
theorem nodeL4 : @code_maker_node_L4 = @code_maker_node_L0 := by
  funext n r l o y k; induction k with
  | zero => funext a b c d; rfl
  | succ k ih => funext a b c d; rw [code_maker_node_L4, code_maker_node_L0, ih]
theorem nodeL5 : @code_maker_node_L5 = @code_maker_node_L0 := by
  funext n r l o y k; induction k with
  | zero => funext a b c d; rfl
  | succ k ih => funext a b c d; rw [code_maker_node_L5, code_maker_node_L0, ih]
theorem nodeL6 : @code_maker_node_L6 = @code_maker_node_L0 := by
  funext n r l o y k; induction k with
  | zero => funext a b c d; rfl
  | succ k ih => funext a b c d; rw [code_maker_node_L6, code_maker_node_L0, ih]
theorem nodeL7 : @code_maker_node_L7 = @code_maker_node_L0 := by
  funext n r l o y k; induction k with
  | zero => funext a b c d; rfl
  | succ k ih => funext a b c d; rw [code_maker_node_L7, code_maker_node_L0, ih]
theorem nodeL8 : @code_maker_node_L8 = @code_maker_node_L0 := by
  funext n r l o y k; induction k with
  | zero => funext a b c d; rfl
  | succ k ih => funext a b c d; rw [code_maker_node_L8, code_maker_node_L0, ih]
theorem nodeL9 : @code_maker_node_L9 = @code_maker_node_L0 := by
  funext n r l o y k; induction k with
  | zero => funext a b c d; rfl
  | succ k ih => funext a b c d; rw [code_maker_node_L9, code_maker_node_L0, ih]
theorem nodeL10 : @code_maker_node_L10 = @code_maker_node_L0 := by
  funext n r l o y k; induction k with
  | zero => funext a b c d; rfl
  | succ k ih => funext a b c d; rw [code_maker_node_L10, code_maker_node_L0, ih]
/-- What follows once the operands are made. -/
def afterL (op : Int) (o : LR (Int × Bool × List OpS) (Int × List OpS × Bool)) : Option (Int × List OpS × Bool) := match o with
  | .out (x32, x33, x34) => (bif decide (((x34).length + 1) * 25 ≤ 140737488355328) then (some (x32, (x34 ++ ([(⟨op, 0, 0⟩ : OpS)] : List OpS)), x33)) else none)
  | .ret v => some v
def leafS (i : Int) (out : List OpS) (ok : Bool) (y : OpS × Bool) : Option (Int × List OpS × Bool) :=
  bif decide ((out.length + 1) * 25 ≤ 140737488355328) then some (IntKind.i64.wrap (i + 1), out ++ [y.1], ok && y.2) else none
theorem node_step (n : Nat) (i : Int) (l : List Nd) (out : List OpS) (ok : Bool) (regs : List Str) : m_code_maker_node (n + 1) i l out ok regs = (idx l i).bind fun x => (m_code_of n x.f_Op).bind fun y =>
    bif (yv y).2 then (code_maker_node_L0 n (m_code_maker_node n) l regs (yv y) n (IntKind.i64.wrap (i + 1)) 0 ok out).bind (afterL x.f_Op) else (m_code_Thread_1 n x regs).bind (leafS i out ok) := by
  rw [m_code_maker_node, nodeL1, nodeL2, nodeL3, nodeL4, nodeL5, nodeL6, nodeL7, nodeL8, nodeL9, nodeL10]
  refine congrArg _ (funext fun x => congrArg _ (funext fun y => ?_))
  have e : ∀ y : Int × Bool, (bif y.2 then (code_maker_node_L0 n (m_code_maker_node n) l regs y n (IntKind.i64.wrap (i + 1)) 0 ok out).bind (afterL x.f_Op) else (m_code_Thread_1 n x regs).bind (leafS i out ok)) =
      bif y.2 then (code_maker_node_L0 n (m_code_maker_node n) l regs y n (IntKind.i64.wrap (i + 1)) 0 ok out).bind (afterL x.f_Op) else ((m_code_Thread_1 n x regs).bind fun y39 => (bif ok then (bif decide (((out).length + 1) * 25 ≤ 140737488355328) then (some (IntKind.i64.wrap (i + 1), (out ++ ([(y39).1] : List OpS)), (y39).2)) else none) else (bif decide (((out).length + 1) * 25 ≤ 140737488355328) then (some (IntKind.i64.wrap (i + 1), (out ++ ([(y39).1] : List OpS)), false)) else none))) := by
    intro y
    congr 1
    refine congrArg _ (funext fun z => ?_)
    unfold leafS
    cases ok <;> rfl
  rw [e]
  cases y <;> rfl
/-- One operand after the other. -/
theorem nodeL_step (n : Nat) (rec' : Int → List Nd → List OpS → Bool → List Str → Option (Int × List OpS × Bool)) (l : List Nd) (regs : List Str) (y : Int × Bool) (k : Nat) (a i : Int) (ok : Bool) (out : List OpS) :
    code_maker_node_L0 n rec' l regs y (k + 1) a i ok out = bif decide (i < y.1) then (rec' a l out ok regs).bind fun z => code_maker_node_L0 n rec' l regs y k z.1 (IntKind.i64.wrap (i + 1)) z.2.2 z.2.1 else some (.out (a, ok, out)) := by
  rw [code_maker_node_L0]
theorem of_leaf {n : Nat} {op : Int} (h : kidsF op = 0) : ∃ y, m_code_of (n + 1) op = some y ∧ (yv y).2 = false := by
  obtain ⟨y, h1, h2⟩ := of_yv n op
  refine ⟨y, h1, ?_⟩
  rw [h2]
  unfold kidsF at h
  exact decide_eq_false (by split at h <;> (try split at h) <;> (try split at h) <;> omega)
theorem of_kids {n : Nat} {op : Int} (h : kidsF op = 1 ∨ kidsF op = 2) : ∃ y, m_code_of (n + 1) op = some y ∧ (yv y).2 = true ∧ (yv y).1 = kidsF op := by
  obtain ⟨y, h1, h2⟩ := of_yv n op
  have h5 : 5 ≤ op ∧ op ≤ 14 := by unfold kidsF at h; split at h <;> (try split at h) <;> (try split at h) <;> omega
  refine ⟨y, h1, ?_, ?_⟩
  · rw [h2]; exact decide_eq_true h5
  · rw [h2]; show (if 1 ≤ op ∧ op ≤ 4 ∨ op < 5 ∨ 15 ≤ op then 0 else takes op) = kidsF op
    rw [if_neg (by omega)]; unfold takes kidsF
    repeat' split
    all_goals omega
theorem node_tr (regs : List Str) (hr : regs.length < 100000) : ∀ (t : Tr) (n : Nat) (pre post : List Nd) (out : List OpS) (ok : Bool), t.wf → pre.length + t.flat.length < 100000 → out.length + t.flat.length < 100000 → t.dep + regs.length + 10 < n →
    m_code_maker_node n (pre.length : Int) (pre ++ (t.flat ++ post)) out ok regs = some (((pre.length + t.flat.length : Nat) : Int), out ++ codeT (fun x => (leafT regs x).1) t, ok && okT (fun x => (leafT regs x).2) t) := by
  intro t
  induction t with
  | leaf x =>
    intro n pre post out ok h hp ho hn
    obtain ⟨n, rfl⟩ : ∃ j, n = j + 2 := ⟨n - 2, by omega⟩
    obtain ⟨y, e1, e2⟩ := of_leaf (n := n) h
    have g : idx (pre ++ ((Tr.leaf x).flat ++ post)) (pre.length : Int) = some x := by rw [idx_nat, List.getElem?_append_right (by simp)]; simp [Tr.flat]
    simp only [Tr.flat, List.length_cons, List.length_nil] at hp ho ⊢
    simp only [Tr.dep] at hn
    rw [node_step]
    simp only [Tr.flat] at g
    rw [g, Option.bind_some, e1, Option.bind_some, e2, cond_false, leafT_m _ regs x (by omega) (by omega), Option.bind_some, leafS, bif_decide (by omega), wrap_one pre.length (by omega)]
    rfl
  | un x a ih =>
    intro n pre post out ok h hp ho hn
    obtain ⟨n, rfl⟩ : ∃ j, n = j + 4 := ⟨n - 4, by omega⟩
    obtain ⟨h1, h2⟩ := h
    obtain ⟨y, e1, e2, e3⟩ := of_kids (n := n + 2) (.inl h1)
    have e : pre ++ ((Tr.un x a).flat ++ post) = (pre ++ [x]) ++ (a.flat ++ post) := by simp [Tr.flat]
    have hp1 : ((pre ++ [x]).length : Int) = (pre.length : Int) + 1 := by simp
    rw [e]
    have g : idx ((pre ++ [x]) ++ (a.flat ++ post)) (pre.length : Int) = some x := by rw [idx_nat, List.append_assoc, List.getElem?_append_right (by simp)]; simp
    simp only [Tr.flat, List.length_cons, Tr.dep] at hp ho hn ⊢
    have i1 := ih (n + 3) (pre ++ [x]) post out ok h2 (by simp; omega) (by omega) (by omega)
    rw [hp1] at i1
    rw [node_step, g, Option.bind_some, e1, Option.bind_some, e2, cond_true, nodeL_step, e3, h1, bif_decide (by omega), wrap64 (n := (pre.length : Int) + 1) (by omega), i1, Option.bind_some, nodeL_step, e3, h1, wrap64 (n := 0 + 1) (by omega), bif_not (by omega)]
    have hc := codeT_len (fun x => (leafT regs x).1) a
    simp only [Option.bind_some, afterL]
    rw [bif_decide (by rw [List.length_append, hc]; omega)]
    simp only [codeT, okT, List.append_assoc, List.length_append, List.length_cons, List.length_nil]
    congr 2; omega
  | bin x a b iha ihb =>
    intro n pre post out ok h hp ho hn
    obtain ⟨n, rfl⟩ : ∃ j, n = j + 5 := ⟨n - 5, by omega⟩
    obtain ⟨h1, h2, h3⟩ := h
    obtain ⟨y, e1, e2, e3⟩ := of_kids (n := n + 3) (.inr h1)
    have e : pre ++ ((Tr.bin x a b).flat ++ post) = (pre ++ [x]) ++ (a.flat ++ (b.flat ++ post)) := by simp [Tr.flat]
    have e5 : (pre ++ [x]) ++ (a.flat ++ (b.flat ++ post)) = (pre ++ [x] ++ a.flat) ++ (b.flat ++ post) := by simp
    have hp1 : ((pre ++ [x]).length : Int) = (pre.length : Int) + 1 := by simp
    have hp2 : (((pre ++ [x]).length + a.flat.length : Nat) : Int) = ((pre ++ [x] ++ a.flat).length : Int) := by simp; omega
    rw [e]
    have g : idx ((pre ++ [x]) ++ (a.flat ++ (b.flat ++ post))) (pre.length : Int) = some x := by rw [idx_nat, List.append_assoc, List.getElem?_append_right (by simp)]; simp
    simp only [Tr.flat, List.length_cons, List.length_append, Tr.dep] at hp ho hn ⊢
    have hca := codeT_len (fun x => (leafT regs x).1) a
    have hcb := codeT_len (fun x => (leafT regs x).1) b
    have i1 := iha (n + 4) (pre ++ [x]) (b.flat ++ post) out ok h2 (by simp; omega) (by omega) (by omega)
    have i2 := ihb (n + 4) (pre ++ [x] ++ a.flat) post (out ++ codeT (fun x => (leafT regs x).1) a) (ok && okT (fun x => (leafT regs x).2) a) h3 (by simp; omega) (by simp [hca]; omega) (by omega)
    rw [← e5, ← hp2] at i2
    rw [hp1] at i1
    rw [node_step, g, Option.bind_some, e1, Option.bind_some, e2, cond_true, nodeL_step, e3, h1, bif_decide (by omega), wrap64 (n := (pre.length : Int) + 1) (by omega), i1, Option.bind_some, nodeL_step, e3, h1, wrap64 (n := 0 + 1) (by omega), bif_decide (by omega), i2, Option.bind_some, nodeL_step, e3, h1, wrap64 (n := 0 + 1 + 1) (by omega), bif_not (by omega)]
    simp only [Option.bind_some, afterL]
    rw [bif_decide (by rw [List.length_append, List.length_append, hca, hcb]; omega)]
    simp only [codeT, okT, List.append_assoc, List.length_append, List.length_cons, List.length_nil, Bool.and_assoc]
    congr 2; omega
end Go.Proofs.Ytmnnkeejgkhgpaa
end

section
namespace Go.Proofs.Ytmnnkeejgkhgpaa
set_option linter.unusedVariables false
set_option linter.unusedSimpArgs false

def locsOf (p : S_api_Prog) : List Str := p.f_Locs.map (·.f_Name)
/-- The lists of a program are no longer than so. -/
structure PB (p : S_api_Prog) (B : Nat) : Prop where
  b : B < 100000
  locs : p.f_Locs.length ≤ B
  thr : p.f_Threads.length ≤ B
  regs : ∀ t ∈ p.f_Threads, t.f_Regs.length ≤ B
/-- The leaf of a claim's code. -/
def leafC (p : S_api_Prog) (x : Nd) : OpS × Bool := if x.f_Op = 1 then (⟨1, x.f_N, 0⟩, true) else if x.f_Op = 3 then (⟨3, indexF (locsOf p) x.f_Name, 0⟩, indexF (locsOf p) x.f_Name != -1)
  else if x.f_Op = 4 then match findF (fun t : S_api_Thread => t.f_Name == x.f_In) p.f_Threads 0 with
    | some i => match p.f_Threads[i]? with
      | some t => (⟨4, indexF t.f_Regs x.f_Name, (i : Int)⟩, indexF t.f_Regs x.f_Name != -1)
      | none => (⟨0, 0, 0⟩, false)
    | none => (⟨0, 0, 0⟩, false)
  else (⟨0, 0, 0⟩, false)
theorem leafC_m (n : Nat) (p : S_api_Prog) (x : Nd) {B : Nat} (hB : PB p B) (hn : B + 4 < n) : m_code_Claim_1 n x (locsOf p) p.f_Mod p.f_Locs p.f_Threads p.f_Claims = some (leafC p x) := by
  obtain ⟨n, rfl⟩ : ∃ j, n = j + 1 := ⟨n - 1, by omega⟩
  have b := hB.b
  have b1 := hB.locs
  have b2 := hB.thr
  rw [m_code_Claim_1, leafC, index_m n (locsOf p) _ (by simp [locsOf]; omega) (by simp [locsOf]; omega)]
  by_cases c1 : x.f_Op = 1
  · rw [if_pos c1, c1]; rfl
  by_cases c3 : x.f_Op = 3
  · rw [if_neg c1, if_pos c3, c3]; rfl
  rw [if_neg c1, if_neg c3, beq_eq_false_iff_ne.2 c1, beq_eq_false_iff_ne.2 c3]
  by_cases c4 : x.f_Op = 4
  · rw [if_pos c4, c4]
    have h := find_list p.f_Threads (fun k i => code_Claim_1_L0 n x p.f_Threads k (i : Int)) (fun t => t.f_Name == x.f_In) (fun i t => some (.ret (⟨4, indexF t.f_Regs x.f_Name, (i : Int)⟩, indexF t.f_Regs x.f_Name != -1))) (fun k => by rw [code_Claim_1_L0, bif_not (by omega)]) (fun k i t hi hx => by
      have := hB.regs t (List.mem_of_getElem? hx)
      rw [code_Claim_1_L0, bif_decide (by omega), idx_some hx, Option.bind_some, wrap_one i (by omega), index_m n t.f_Regs _ (by omega) (by omega), Option.bind_some]) p.f_Threads.length n 0 (by omega) (by omega)
    have h : code_Claim_1_L0 n x p.f_Threads n 0 = _ := h
    rw [h, List.drop_zero]
    cases hf : findF (fun t : S_api_Thread => t.f_Name == x.f_In) p.f_Threads 0 with
    | none => rfl
    | some j =>
      obtain ⟨_, h2, t, h3, _⟩ := findF_lt hf
      rw [Nat.sub_zero] at h3
      simp only [h3]; rfl
  · rw [if_neg c4, beq_eq_false_iff_ne.2 c4]; rfl
theorem nodeCL1 : @code_maker_node_1_L1 = @code_maker_node_1_L0 := by
  funext n r l o o1 o2 o3 o4 y k; induction k with
  | zero => funext a b c d; rfl
  | succ k ih => funext a b c d; rw [code_maker_node_1_L1, code_maker_node_1_L0, ih]
theorem nodeCL2 : @code_maker_node_1_L2 = @code_maker_node_1_L0 := by
  funext n r l o o1 o2 o3 o4 y k; induction k with
  | zero => funext a b c d; rfl
  | succ k ih => funext a b c d; rw [code_maker_node_1_L2, code_maker_node_1_L0, ih]
theorem nodeCL3 : @code_maker_node_1_L3 = @code_maker_node_1_L0 := by
  funext n r l o o1 o2 o3 o4 y k; induction k with
  | zero => funext a b c d; rfl
  | succ k ih => funext a b c d; rw [code_maker_node_1_L3, code_maker_node_1_L0, ih]
theorem nodeCL4 : @code_maker_node_1_L4 = @code_maker_node_1_L0 := by
  funext n r l o o1 o2 o3 o4 y k; induction k with
  | zero => funext a b c d; rfl
  | succ k ih => funext a b c d; rw [code_maker_node_1_L4, code_maker_node_1_L0, ih]
theorem nodeCL5 : @code_maker_node_1_L5 = @code_maker_node_1_L0 := by
  funext n r l o o1 o2 o3 o4 y k; induction k with
  | zero => funext a b c d; rfl
  | succ k ih => funext a b c d; rw [code_maker_node_1_L5, code_maker_node_1_L0, ih]
theorem nodeCL6 : @code_maker_node_1_L6 = @code_maker_node_1_L0 := by
  funext n r l o o1 o2 o3 o4 y k; induction k with
  | zero => funext a b c d; rfl
  | succ k ih => funext a b c d; rw [code_maker_node_1_L6, code_maker_node_1_L0, ih]
theorem nodeCL7 : @code_maker_node_1_L7 = @code_maker_node_1_L0 := by
  funext n r l o o1 o2 o3 o4 y k; induction k with
  | zero => funext a b c d; rfl
  | succ k ih => funext a b c d; rw [code_maker_node_1_L7, code_maker_node_1_L0, ih]
theorem nodeCL8 : @code_maker_node_1_L8 = @code_maker_node_1_L0 := by
  funext n r l o o1 o2 o3 o4 y k; induction k with
  | zero => funext a b c d; rfl
  | succ k ih => funext a b c d; rw [code_maker_node_1_L8, code_maker_node_1_L0, ih]
theorem nodeCL9 : @code_maker_node_1_L9 = @code_maker_node_1_L0 := by
  funext n r l o o1 o2 o3 o4 y k; induction k with
  | zero => funext a b c d; rfl
  | succ k ih => funext a b c d; rw [code_maker_node_1_L9, code_maker_node_1_L0, ih]
theorem nodeCL10 : @code_maker_node_1_L10 = @code_maker_node_1_L0 := by
  funext n r l o o1 o2 o3 o4 y k; induction k with
  | zero => funext a b c d; rfl
  | succ k ih => funext a b c d; rw [code_maker_node_1_L10, code_maker_node_1_L0, ih]
theorem nodeC_step (n : Nat) (i : Int) (l : List Nd) (out : List OpS) (ok : Bool) (p : S_api_Prog) : m_code_maker_node_1 (n + 1) i l out ok (locsOf p) p.f_Mod p.f_Locs p.f_Threads p.f_Claims = (idx l i).bind fun x => (m_code_of n x.f_Op).bind fun y =>
    bif (yv y).2 then (code_maker_node_1_L0 n (m_code_maker_node_1 n) l (locsOf p) p.f_Mod p.f_Locs p.f_Threads p.f_Claims (yv y) n (IntKind.i64.wrap (i + 1)) 0 ok out).bind (afterL x.f_Op) else (m_code_Claim_1 n x (locsOf p) p.f_Mod p.f_Locs p.f_Threads p.f_Claims).bind (leafS i out ok) := by
  rw [m_code_maker_node_1, nodeCL1, nodeCL2, nodeCL3, nodeCL4, nodeCL5, nodeCL6, nodeCL7, nodeCL8, nodeCL9, nodeCL10]
  refine congrArg _ (funext fun x => congrArg _ (funext fun y => ?_))
  have e : ∀ y : Int × Bool, (bif y.2 then (code_maker_node_1_L0 n (m_code_maker_node_1 n) l (locsOf p) p.f_Mod p.f_Locs p.f_Threads p.f_Claims y n (IntKind.i64.wrap (i + 1)) 0 ok out).bind (afterL x.f_Op) else (m_code_Claim_1 n x (locsOf p) p.f_Mod p.f_Locs p.f_Threads p.f_Claims).bind (leafS i out ok)) =
      bif y.2 then (code_maker_node_1_L0 n (m_code_maker_node_1 n) l (locsOf p) p.f_Mod p.f_Locs p.f_Threads p.f_Claims y n (IntKind.i64.wrap (i + 1)) 0 ok out).bind (afterL x.f_Op) else ((m_code_Claim_1 n x (locsOf p) p.f_Mod p.f_Locs p.f_Threads p.f_Claims).bind fun y39 => (bif ok then (bif decide (((out).length + 1) * 25 ≤ 140737488355328) then (some (IntKind.i64.wrap (i + 1), (out ++ ([(y39).1] : List OpS)), (y39).2)) else none) else (bif decide (((out).length + 1) * 25 ≤ 140737488355328) then (some (IntKind.i64.wrap (i + 1), (out ++ ([(y39).1] : List OpS)), false)) else none))) := by
    intro y
    congr 1
    refine congrArg _ (funext fun z => ?_)
    unfold leafS
    cases ok <;> rfl
  rw [e]
  cases y <;> rfl
/-- One operand after the other. -/
theorem nodeCL_step (n : Nat) (rec' : Int → List Nd → List OpS → Bool → List Str → Int → List S_api_Var → List S_api_Thread → List S_api_Claim → Option (Int × List OpS × Bool)) (l : List Nd) (p : S_api_Prog) (y : Int × Bool) (k : Nat) (a i : Int) (ok : Bool) (out : List OpS) :
    code_maker_node_1_L0 n rec' l (locsOf p) p.f_Mod p.f_Locs p.f_Threads p.f_Claims y (k + 1) a i ok out = bif decide (i < y.1) then (rec' a l out ok (locsOf p) p.f_Mod p.f_Locs p.f_Threads p.f_Claims).bind fun z => code_maker_node_1_L0 n rec' l (locsOf p) p.f_Mod p.f_Locs p.f_Threads p.f_Claims y k z.1 (IntKind.i64.wrap (i + 1)) z.2.2 z.2.1 else some (.out (a, ok, out)) := by
  rw [code_maker_node_1_L0]
theorem nodeC_tr (p : S_api_Prog) (B : Nat) (hB : PB p B) : ∀ (t : Tr) (n : Nat) (pre post : List Nd) (out : List OpS) (ok : Bool), t.wf → pre.length + t.flat.length < 100000 → out.length + t.flat.length < 100000 → t.dep + B + 12 < n →
    m_code_maker_node_1 n (pre.length : Int) (pre ++ (t.flat ++ post)) out ok (locsOf p) p.f_Mod p.f_Locs p.f_Threads p.f_Claims = some (((pre.length + t.flat.length : Nat) : Int), out ++ codeT (fun x => (leafC p x).1) t, ok && okT (fun x => (leafC p x).2) t) := by
  intro t
  induction t with
  | leaf x =>
    intro n pre post out ok h hp ho hn
    obtain ⟨n, rfl⟩ : ∃ j, n = j + 2 := ⟨n - 2, by omega⟩
    obtain ⟨y, e1, e2⟩ := of_leaf (n := n) h
    have g : idx (pre ++ ((Tr.leaf x).flat ++ post)) (pre.length : Int) = some x := by rw [idx_nat, List.getElem?_append_right (by simp)]; simp [Tr.flat]
    simp only [Tr.flat, List.length_cons, List.length_nil] at hp ho ⊢
    simp only [Tr.dep] at hn
    rw [nodeC_step]
    simp only [Tr.flat] at g
    rw [g, Option.bind_some, e1, Option.bind_some, e2, cond_false, leafC_m _ p x hB (by omega), Option.bind_some, leafS, bif_decide (by omega), wrap_one pre.length (by omega)]
    rfl
  | un x a ih =>
    intro n pre post out ok h hp ho hn
    obtain ⟨n, rfl⟩ : ∃ j, n = j + 4 := ⟨n - 4, by omega⟩
    obtain ⟨h1, h2⟩ := h
    obtain ⟨y, e1, e2, e3⟩ := of_kids (n := n + 2) (.inl h1)
    have e : pre ++ ((Tr.un x a).flat ++ post) = (pre ++ [x]) ++ (a.flat ++ post) := by simp [Tr.flat]
    have hp1 : ((pre ++ [x]).length : Int) = (pre.length : Int) + 1 := by simp
    rw [e]
    have g : idx ((pre ++ [x]) ++ (a.flat ++ post)) (pre.length : Int) = some x := by rw [idx_nat, List.append_assoc, List.getElem?_append_right (by simp)]; simp
    simp only [Tr.flat, List.length_cons, Tr.dep] at hp ho hn ⊢
    have i1 := ih (n + 3) (pre ++ [x]) post out ok h2 (by simp; omega) (by omega) (by omega)
    rw [hp1] at i1
    rw [nodeC_step, g, Option.bind_some, e1, Option.bind_some, e2, cond_true, nodeCL_step, e3, h1, bif_decide (by omega), wrap64 (n := (pre.length : Int) + 1) (by omega), i1, Option.bind_some, nodeCL_step, e3, h1, wrap64 (n := 0 + 1) (by omega), bif_not (by omega)]
    have hc := codeT_len (fun x => (leafC p x).1) a
    simp only [Option.bind_some, afterL]
    rw [bif_decide (by rw [List.length_append, hc]; omega)]
    simp only [codeT, okT, List.append_assoc, List.length_append, List.length_cons, List.length_nil]
    congr 2; omega
  | bin x a b iha ihb =>
    intro n pre post out ok h hp ho hn
    obtain ⟨n, rfl⟩ : ∃ j, n = j + 5 := ⟨n - 5, by omega⟩
    obtain ⟨h1, h2, h3⟩ := h
    obtain ⟨y, e1, e2, e3⟩ := of_kids (n := n + 3) (.inr h1)
    have e : pre ++ ((Tr.bin x a b).flat ++ post) = (pre ++ [x]) ++ (a.flat ++ (b.flat ++ post)) := by simp [Tr.flat]
    have e5 : (pre ++ [x]) ++ (a.flat ++ (b.flat ++ post)) = (pre ++ [x] ++ a.flat) ++ (b.flat ++ post) := by simp
    have hp1 : ((pre ++ [x]).length : Int) = (pre.length : Int) + 1 := by simp
    have hp2 : (((pre ++ [x]).length + a.flat.length : Nat) : Int) = ((pre ++ [x] ++ a.flat).length : Int) := by simp; omega
    rw [e]
    have g : idx ((pre ++ [x]) ++ (a.flat ++ (b.flat ++ post))) (pre.length : Int) = some x := by rw [idx_nat, List.append_assoc, List.getElem?_append_right (by simp)]; simp
    simp only [Tr.flat, List.length_cons, List.length_append, Tr.dep] at hp ho hn ⊢
    have hca := codeT_len (fun x => (leafC p x).1) a
    have hcb := codeT_len (fun x => (leafC p x).1) b
    have i1 := iha (n + 4) (pre ++ [x]) (b.flat ++ post) out ok h2 (by simp; omega) (by omega) (by omega)
    have i2 := ihb (n + 4) (pre ++ [x] ++ a.flat) post (out ++ codeT (fun x => (leafC p x).1) a) (ok && okT (fun x => (leafC p x).2) a) h3 (by simp; omega) (by simp [hca]; omega) (by omega)
    rw [← e5, ← hp2] at i2
    rw [hp1] at i1
    rw [nodeC_step, g, Option.bind_some, e1, Option.bind_some, e2, cond_true, nodeCL_step, e3, h1, bif_decide (by omega), wrap64 (n := (pre.length : Int) + 1) (by omega), i1, Option.bind_some, nodeCL_step, e3, h1, wrap64 (n := 0 + 1) (by omega), bif_decide (by omega), i2, Option.bind_some, nodeCL_step, e3, h1, wrap64 (n := 0 + 1 + 1) (by omega), bif_not (by omega)]
    simp only [Option.bind_some, afterL]
    rw [bif_decide (by rw [List.length_append, List.length_append, hca, hcb]; omega)]
    simp only [codeT, okT, List.append_assoc, List.length_append, List.length_cons, List.length_nil, Bool.and_assoc]
    congr 2; omega

end Go.Proofs.Ytmnnkeejgkhgpaa
end

section
namespace Go.Proofs.Ytmnnkeejgkhgpaa
set_option linter.unusedVariables false
set_option linter.unusedSimpArgs false

def rvM (lv : List OpS) : R_ref06_made → List OpS
  | .c0 y => y
  | .c1 y => List.take y.2 (List.drop y.1 lv)
theorem made_step (n : Nat) (l : List Nd) (i : Int) (lv : List OpS) : m_ref06_made (n + 1) l i lv = (idx l i).bind fun x => bif decide (x.f_Op ≤ 4) then
    (bif (decide (0 ≤ (IntKind.i64.wrap (i + 1))) && decide ((IntKind.i64.wrap (i + 1)) ≤ (((lv).length : Nat) : Int)) && decide (0 ≤ i) && decide (i ≤ (IntKind.i64.wrap (i + 1)))) then (some (R_ref06_made.c1 ((i).toNat, (IntKind.i64.wrap (i + 1)).toNat - (i).toNat))) else none)
    else (m_ref06_made n l (IntKind.i64.wrap (i + 1)) lv).bind fun y => bif decide ((rvM lv y).length * 25 ≤ 140737488355328) then
      (bif x.f_Op != 5 then ((m_ref02_End n l (IntKind.i64.wrap (i + 1))).bind fun e => (m_ref06_made n l e lv).bind fun z => bif decide (((rvM lv y).length + (rvM lv z).length) * 25 ≤ 140737488355328) then
        (bif decide (((rvM lv y ++ rvM lv z).length + 1) * 25 ≤ 140737488355328) then some (.c0 ((rvM lv y ++ rvM lv z) ++ ([(⟨x.f_Op, 0, 0⟩ : OpS)] : List OpS))) else none) else none)
      else (bif decide (((rvM lv y).length + 1) * 25 ≤ 140737488355328) then some (.c0 (rvM lv y ++ ([(⟨x.f_Op, 0, 0⟩ : OpS)] : List OpS))) else none)) else none := by
  rw [m_ref06_made]
  refine congrArg _ (funext fun x => ?_)
  congr 1
  refine congrArg _ (funext fun y => ?_)
  cases y
  · dsimp only [rvM]
    congr 1; congr 1
    refine congrArg _ (funext fun e => congrArg _ (funext fun z => ?_))
    cases z <;> rfl
  · dsimp only [rvM]
    congr 1; congr 1
    refine congrArg _ (funext fun e => congrArg _ (funext fun z => ?_))
    cases z <;> rfl
theorem made_tr (lf : Nd → OpS) (l : List Nd) (lv : List OpS) (hl : l.length < 10000) (hlv : lv.length = l.length) (hleaf : ∀ (i : Nat) (x : Nd), l[i]? = some x → kidsF x.f_Op = 0 → lv[i]? = some (lf x)) :
    ∀ (t : Tr) (n : Nat) (pre post : List Nd), t.wf → l = pre ++ (t.flat ++ post) → t.dep + l.length + 10 < n → ∃ r, m_ref06_made n l (pre.length : Int) lv = some r ∧ rvM lv r = codeT lf t := by
  intro t
  induction t with
  | leaf x =>
    intro n pre post h e hn
    obtain ⟨n, rfl⟩ : ∃ j, n = j + 1 := ⟨n - 1, by omega⟩
    have hlen := congrArg List.length e
    simp only [List.length_append, Tr.flat, List.length_cons, List.length_nil] at hlen
    have g : l[pre.length]? = some x := by rw [e, List.getElem?_append_right (by simp)]; simp [Tr.flat]
    have g2 := hleaf _ _ g h
    have h4 : x.f_Op ≤ 4 := by
      simp only [Tr.wf] at h; unfold kidsF at h; repeat' split at h
      all_goals omega
    have cc : (decide (0 ≤ ((pre.length + 1 : Nat) : Int)) && decide (((pre.length + 1 : Nat) : Int) ≤ (lv.length : Int)) && decide (0 ≤ (pre.length : Int)) && decide ((pre.length : Int) ≤ ((pre.length + 1 : Nat) : Int))) = true := by
      rw [decide_eq_true (by omega), decide_eq_true (by omega), decide_eq_true (by omega), decide_eq_true (by omega)]; rfl
    refine ⟨.c1 (pre.length, 1), ?_, ?_⟩
    · rw [made_step, idx_nat, g, Option.bind_some, bif_decide h4, wrap_one pre.length (by omega), cc, cond_true]
      simp
    · have hlt : pre.length < lv.length := by omega
      rw [rvM, List.drop_eq_getElem_cons hlt]
      rw [List.getElem?_eq_getElem hlt] at g2
      rw [Option.some.inj g2]; rfl
  | un x a ih =>
    intro n pre post h e hn
    obtain ⟨n, rfl⟩ : ∃ j, n = j + 1 := ⟨n - 1, by omega⟩
    obtain ⟨h1, h2⟩ := h
    have hlen := congrArg List.length e
    simp only [List.length_append, Tr.flat, List.length_cons, List.length_nil] at hlen
    have g : l[pre.length]? = some x := by rw [e, List.getElem?_append_right (by simp)]; simp [Tr.flat]
    have h5 : x.f_Op = 5 := by
      unfold kidsF at h1; repeat' split at h1
      all_goals omega
    have e1 : l = (pre ++ [x]) ++ (a.flat ++ post) := by rw [e]; simp [Tr.flat]
    simp only [Tr.dep] at hn
    obtain ⟨r, r1, r2⟩ := ih n (pre ++ [x]) post h2 e1 (by omega)
    have hp1 : ((pre ++ [x]).length : Int) = ((pre.length + 1 : Nat) : Int) := by simp
    rw [hp1] at r1
    have hc := codeT_len lf a
    refine ⟨.c0 (codeT lf a ++ [⟨x.f_Op, 0, 0⟩]), ?_, rfl⟩
    rw [made_step, idx_nat, g, Option.bind_some, bif_not (by omega), wrap_one pre.length (by omega), r1, Option.bind_some, r2, bif_decide (by omega), h5, bif_decide (by omega)]
    rfl
  | bin x a b iha ihb =>
    intro n pre post h e hn
    obtain ⟨n, rfl⟩ : ∃ j, n = j + 1 := ⟨n - 1, by omega⟩
    obtain ⟨h1, h2, h3⟩ := h
    have hlen := congrArg List.length e
    simp only [List.length_append, Tr.flat, List.length_cons, List.length_nil] at hlen
    have g : l[pre.length]? = some x := by rw [e, List.getElem?_append_right (by simp)]; simp [Tr.flat]
    have h5 : 6 ≤ x.f_Op := by
      unfold kidsF at h1; repeat' split at h1
      all_goals omega
    have e1 : l = (pre ++ [x]) ++ (a.flat ++ (b.flat ++ post)) := by rw [e]; simp [Tr.flat]
    have e2 : l = (pre ++ [x] ++ a.flat) ++ (b.flat ++ post) := by rw [e1]; simp
    simp only [Tr.dep] at hn
    obtain ⟨r, r1, r2⟩ := iha n (pre ++ [x]) _ h2 e1 (by omega)
    obtain ⟨s, s1, s2⟩ := ihb n _ post h3 e2 (by omega)
    have hp1 : ((pre ++ [x]).length : Int) = ((pre.length + 1 : Nat) : Int) := by simp
    have ee := endS_tr h2 (pre ++ [x]) (b.flat ++ post)
    rw [← e1, hp1] at ee
    have hp2 : (((pre ++ [x]).length + a.flat.length : Nat) : Int) = ((pre ++ [x] ++ a.flat).length : Int) := by simp; omega
    rw [hp1] at r1
    have hca := codeT_len lf a
    have hcb := codeT_len lf b
    refine ⟨.c0 ((codeT lf a ++ codeT lf b) ++ [⟨x.f_Op, 0, 0⟩]), ?_, rfl⟩
    rw [made_step, idx_nat, g, Option.bind_some, bif_not (by omega), wrap_one pre.length (by omega), r1, Option.bind_some, r2, bif_decide (by omega), bne_iff_ne.2 (by omega), cond_true, rend_m _ _ _ (by omega) (by omega), Option.bind_some, ee, hp2, s1, Option.bind_some, s2, bif_decide (by omega), bif_decide (by rw [List.length_append]; omega)]
/-- A loop that fills a row. -/
theorem fill_list {α β τ : Type} (l : List α) (z : β) (f : α → β) (ok : α → Bool) (bad : τ) (L : Nat → Nat → List β → Option (LR (List β) τ)) (h0 : ∀ k s, s.length = l.length → L (k + 1) l.length s = some (.out s))
    (h1 : ∀ k i x s, i < l.length → l[i]? = some x → s.length = l.length → s[i]? = some z → L (k + 1) i s = bif ok x then L k (i + 1) (s.set i (f x)) else some (.ret bad)) {k : Nat} (hk : l.length < k) :
    L k 0 (List.replicate l.length z) = bif l.all ok then some (.out (l.map f)) else some (.ret bad) := by
  have := loop_list0 l L (fun r s => bif r.all ok then some (.out (s.take (l.length - r.length) ++ r.map f)) else some (.ret bad)) (fun i s => s.length = l.length ∧ ∀ j, i ≤ j → j < l.length → s[j]? = some z) (s := List.replicate l.length z) hk
    ⟨by simp, by intro j _ hj; simp [hj]⟩ (fun k s hs => by rw [h0 k s hs.1]; simp [← hs.1]) ?_
  · rw [this]; simp
  · intro k i s x hi hx ⟨hs, hz⟩ ih
    rw [h1 k i x s hi hx hs (hz i (Nat.le_refl _) hi), List.all_cons]
    cases ok x with
    | false => rfl
    | true =>
      rw [cond_true, ih _ ⟨by simp [hs], fun j h1 h2 => by rw [List.getElem?_set_ne (by omega)]; exact hz j (by omega) h2⟩]
      rw [Bool.true_and]
      congr 2; congr 1
      have e1 : l.length - (l.drop (i + 1)).length = i + 1 := by rw [List.length_drop]; omega
      have e2 : l.length - (x :: l.drop (i + 1)).length = i := by rw [List.length_cons, List.length_drop]; omega
      rw [e1, e2, take_set _ _ _ (by omega)]; simp
def opLeaf (x : Nd) : Bool := decide (1 ≤ x.f_Op ∧ x.f_Op ≤ 4)
theorem kids0 {x : Nd} : kidsF x.f_Op = 0 ↔ 1 ≤ x.f_Op ∧ x.f_Op ≤ 4 := by
  unfold kidsF; repeat' split
  all_goals omega
theorem okT_all {ok : Nd → Bool} : ∀ (t : Tr), t.wf → okT ok t = t.flat.all fun x => !opLeaf x || ok x := by
  intro t
  induction t with
  | leaf x => intro h; have := kids0.1 h; simp [okT, Tr.flat, opLeaf, this]
  | un x a ih =>
    intro h
    have : opLeaf x = false := decide_eq_false fun c => by have := kids0.2 c; have := h.1; omega
    simp [okT, Tr.flat, this, ih h.2]
  | bin x a b iha ihb =>
    intro h
    have : opLeaf x = false := decide_eq_false fun c => by have := kids0.2 c; have := h.1; omega
    simp [okT, Tr.flat, this, iha h.2.1, ihb h.2.2]
theorem exprOk_tree {l : List Nd} (h : exprOk l = true) : ∃ t : Tr, t.wf ∧ t.flat = l ∧ l.length ≤ 200 ∧ t.dep ≤ 30 ∧ 1 ≤ l.length ∧ l.all nodeOk = true := by
  simp only [exprOk, Bool.and_eq_true, decide_eq_true_eq] at h
  obtain ⟨h1, h2, h3, h4⟩ := h
  obtain ⟨t, t1, t2, _, _⟩ := of_endF1 h2
  rw [List.take_length] at t2
  have := depF_tr t [] 0 [] t1 (by omega)
  rw [List.append_nil, t2] at this
  rw [this] at h4
  simp [depF] at h4
  exact ⟨t, t1, t2, h1.2, by omega, h1.1, h3⟩
/-- An expression's code. -/
noncomputable def codeOf (l : List Nd) (lf : Nd → OpS × Bool) : List OpS × Bool :=
  if h : exprOk l = true then (bif okT (fun x => (lf x).2) (exprOk_tree h).choose then (codeT (fun x => (lf x).1) (exprOk_tree h).choose, true) else ([], false)) else ([], false)
theorem codeOf_cases (l : List Nd) (lf : Nd → OpS × Bool) : (exprOk l = false ∧ codeOf l lf = ([], false)) ∨ ∃ t : Tr, exprOk l = true ∧ t.wf ∧ t.flat = l ∧ l.length ≤ 200 ∧ t.dep ≤ 30 ∧ codeOf l lf = bif okT (fun x => (lf x).2) t then (codeT (fun x => (lf x).1) t, true) else ([], false) := by
  unfold codeOf
  by_cases h : exprOk l = true
  · obtain ⟨t1, t2, t3, t4, t5, _⟩ := (exprOk_tree h).choose_spec
    exact .inr ⟨_, h, t1, t2, t3, t4, dif_pos h⟩
  · exact .inl ⟨Bool.eq_false_iff.2 h, dif_neg h⟩
theorem thread_m (n : Nat) (l : List Nd) (regs : List Str) (hl : l.length < 10000) (hr : regs.length < 400) (hn : l.length + 900 < n) : m_code_Thread n l regs = some (codeOf l (leafT regs)) := by
  obtain ⟨n, rfl⟩ : ∃ j, n = j + 2 := ⟨n - 2, by omega⟩
  rw [m_code_Thread, m_code_made, eright_m _ _ (by omega) (by omega), Option.bind_some]
  rcases codeOf_cases l (leafT regs) with ⟨h, e⟩ | ⟨t, h, t1, t2, t3, t4, e⟩
  · rw [h, e]; rfl
  · rw [h, e]
    have := node_tr regs (by omega) t n [] [] [] true t1 (by simp [t2]; omega) (by simp [t2]; omega) (by omega)
    rw [List.nil_append, List.append_nil, t2] at this
    have this : m_code_maker_node n 0 l [] true regs = _ := this
    rw [cond_true, this]
    cases okT (fun x => (leafT regs x).2) t <;> rfl
theorem claim_m (n : Nat) (l : List Nd) (p : S_api_Prog) (hl : l.length < 10000) (hp : PB p 100) (hn : l.length + 900 < n) : m_code_Claim n l p = some (codeOf l (leafC p)) := by
  obtain ⟨n, rfl⟩ : ∃ j, n = j + 2 := ⟨n - 2, by omega⟩
  have b := hp.locs
  rw [m_code_Claim, locs_m _ _ (by omega) (by omega), Option.bind_some, m_code_made_1, eright_m _ _ (by omega) (by omega), Option.bind_some]
  rcases codeOf_cases l (leafC p) with ⟨h, e⟩ | ⟨t, h, t1, t2, t3, t4, e⟩
  · rw [h, e]; rfl
  · rw [h, e]
    have := nodeC_tr p 100 hp t n [] [] [] true t1 (by simp [t2]; omega) (by simp [t2]; omega) (by omega)
    rw [List.nil_append, List.append_nil, t2] at this
    have this : m_code_maker_node_1 n 0 l [] true (p.f_Locs.map (·.f_Name)) p.f_Mod p.f_Locs p.f_Threads p.f_Claims = _ := this
    rw [cond_true, this]
    cases okT (fun x => (leafC p x).2) t <;> rfl
def leafOk (lf : Nd → OpS × Bool) (x : Nd) : Bool := !opLeaf x || (lf x).2
def leafV (lf : Nd → OpS × Bool) (x : Nd) : OpS := bif opLeaf x then (lf x).1 else ⟨0, 0, 0⟩
theorem made_code (n : Nat) {l : List Nd} {lf : Nd → OpS × Bool} {t : Tr} (t1 : t.wf) (t2 : t.flat = l) (hl : l.length ≤ 200) (hn : 500 < n) : ∃ r, m_ref06_made n l 0 (l.map (leafV lf)) = some r ∧ rvM (l.map (leafV lf)) r = codeT (fun x => (lf x).1) t := by
  have hd := t.dep_lt
  rw [t2] at hd
  refine made_tr (fun x => (lf x).1) l (l.map (leafV lf)) (by omega) (by simp) ?_ t n [] [] t1 (by simp [t2]) (by omega)
  intro i x hx hk
  have := kids0.1 hk
  rw [List.getElem?_map, hx]
  simp [leafV, opLeaf, this]
theorem indexF_bound (l : List Str) (s : Str) : indexF l s = -1 ∨ ∃ j : Nat, indexF l s = j ∧ j < l.length := by
  unfold indexF
  cases hf : findF (fun x => x == s) l 0 with
  | none => exact .inl rfl
  | some j => obtain ⟨_, h2, _⟩ := findF_lt hf; exact .inr ⟨j, rfl, by omega⟩
theorem neg_index (l : List Str) (s : Str) {α : Type} (a b : α) : (bif decide (indexF l s < 0) then a else b) = bif indexF l s != -1 then b else a := by
  rcases indexF_bound l s with h | ⟨j, h, _⟩
  · rw [h]; rfl
  · rw [h, bif_not (by omega), bne_iff_ne.2 (by omega)]; rfl
theorem set_same {α : Type} {l : List α} {i : Nat} {z : α} (h : l[i]? = some z) : l.set i z = l := by
  apply List.ext_getElem?
  intro j
  by_cases e : i = j
  · subst e; rw [List.getElem?_set_self (List.getElem?_eq_some_iff.1 h).1, h]
  · rw [List.getElem?_set_ne e]
theorem rthread_c (n : Nat) (l : List Nd) (regs : List Str) (hl : lightE l = true) (hr : regs.length < 400) (hn : 1100 < n) : m_ref06_Thread n l regs = some (codeOf l (leafT regs)) := by
  obtain ⟨n, rfl⟩ : ∃ j, n = j + 1 := ⟨n - 1, by omega⟩
  rw [m_ref06_Thread, rright_e n l hl (by omega), Option.bind_some]
  have hl2 : l.length ≤ 250 := by simp only [lightE, Bool.and_eq_true, decide_eq_true_eq] at hl; exact hl.1
  rcases codeOf_cases l (leafT regs) with ⟨h, e⟩ | ⟨t, h, t1, t2, t3, t4, e⟩
  · rw [h, e]; rfl
  · rw [h, e, cond_true]
    have cc : (decide (0 ≤ (l.length : Int)) && decide ((24 : Int) * (l.length : Int) ≤ 140737488355328)) = true := by rw [decide_eq_true (by omega), decide_eq_true (by omega)]; rfl
    have hL : ref06_Thread_L0 n l regs n 0 (List.replicate l.length ⟨0, 0, 0⟩) = bif l.all (leafOk (leafT regs)) then some (.out (l.map (leafV (leafT regs)))) else some (.ret ([], false)) := by
      refine fill_list l (⟨0, 0, 0⟩ : OpS) (leafV (leafT regs)) (leafOk (leafT regs)) ([], false) (fun k i s => ref06_Thread_L0 n l regs k (i : Int) s) (fun k s hs => ?_) (fun k i x s hi hx hs hz => ?_) (by omega)
      · rw [ref06_Thread_L0, bif_not (by omega)]
      · have hz' : idx s (i : Int) = some ⟨0, 0, 0⟩ := by rw [idx_nat, hz]
        have hself : ∀ v : OpS, idx (s.set i v) (i : Int) = some v := by intro v; rw [idx_nat, List.getElem?_set_self (by omega)]
        rw [ref06_Thread_L0, bif_decide (by omega), idx_some hx, Option.bind_some, Option.bind_some, Option.bind_some, wrap_one i (by omega), hz', rindex_m n regs _ (by omega) (by omega)]
        simp only [Option.bind_some, Int.toNat_natCast, hself, neg_index]
        unfold leafOk leafV leafT opLeaf
        rcases op_cases x.f_Op with g | g | g | g | g | g | g | g | g | g | g | g | g | g | g | g
        · rw [beq_eq_false_iff_ne.2 (by omega), beq_eq_false_iff_ne.2 (by omega), beq_eq_false_iff_ne.2 (by omega), beq_eq_false_iff_ne.2 (by omega), decide_eq_false (by omega)]; (show _ = ref06_Thread_L0 n l regs k _ (s.set i ⟨0, 0, 0⟩)); rw [set_same hz]; rfl
        · rw [beq_eq_false_iff_ne.2 (by omega), beq_eq_false_iff_ne.2 (by omega), beq_eq_false_iff_ne.2 (by omega), beq_eq_false_iff_ne.2 (by omega), decide_eq_false (by omega)]; (show _ = ref06_Thread_L0 n l regs k _ (s.set i ⟨0, 0, 0⟩)); rw [set_same hz]; rfl
        all_goals rw [g]
        · rfl
        · rfl
        · rfl
        · rfl
        all_goals (show _ = ref06_Thread_L0 n l regs k _ (s.set i ⟨0, 0, 0⟩)); rw [set_same hz]; rfl
    have e0 : ((l.length : Nat) : Int).toNat = l.length := Int.toNat_natCast _
    rw [cc, cond_true, e0, hL, okT_all t t1, t2]
    have ea : l.all (fun x => !opLeaf x || (leafT regs x).2) = l.all (leafOk (leafT regs)) := rfl
    rw [ea]
    obtain ⟨r, r1, r2⟩ := made_code n (lf := leafT regs) t1 t2 t3 (by omega)
    cases l.all (leafOk (leafT regs)) with
    | false => rfl
    | true =>
      simp only [cond_true, Option.bind_some, r1]
      rw [← r2]
      cases r <;> rfl
theorem findF_map {α : Type} (f : α → Str) (s : Str) : ∀ (l : List α) (i : Nat), findF (fun x => x == s) (l.map f) i = findF (fun t => f t == s) l i := by
  intro l
  induction l with
  | nil => intro i; rfl
  | cons a l ih => intro i; rw [List.map_cons, findF, findF, ih]
theorem rclaim_c (n : Nat) (l : List Nd) (p : S_api_Prog) (hl : lightE l = true) (hp : PB p 100) (hn : 1100 < n) : m_ref06_Claim n l p = some (codeOf l (leafC p)) := by
  obtain ⟨n, rfl⟩ : ∃ j, n = j + 1 := ⟨n - 1, by omega⟩
  rw [m_ref06_Claim, rright_e n l hl (by omega), Option.bind_some]
  have hl2 : l.length ≤ 250 := by simp only [lightE, Bool.and_eq_true, decide_eq_true_eq] at hl; exact hl.1
  have b1 := hp.locs
  have b2 := hp.thr
  rcases codeOf_cases l (leafC p) with ⟨h, e⟩ | ⟨t, h, t1, t2, t3, t4, e⟩
  · rw [h, e]; rfl
  · rw [h, e, cond_true]
    have cc : (decide (0 ≤ (l.length : Int)) && decide ((24 : Int) * (l.length : Int) ≤ 140737488355328)) = true := by rw [decide_eq_true (by omega), decide_eq_true (by omega)]; rfl
    have hL : ref06_Claim_L0 n l p n 0 (List.replicate l.length ⟨0, 0, 0⟩) = bif l.all (leafOk (leafC p)) then some (.out (l.map (leafV (leafC p)))) else some (.ret ([], false)) := by
      refine fill_list l (⟨0, 0, 0⟩ : OpS) (leafV (leafC p)) (leafOk (leafC p)) ([], false) (fun k i s => ref06_Claim_L0 n l p k (i : Int) s) (fun k s hs => ?_) (fun k i x s hi hx hs hz => ?_) (by omega)
      · rw [ref06_Claim_L0, bif_not (by omega)]
      · have hz' : idx s (i : Int) = some ⟨0, 0, 0⟩ := by rw [idx_nat, hz]
        have hself : ∀ v : OpS, idx (s.set i v) (i : Int) = some v := by intro v; rw [idx_nat, List.getElem?_set_self (by omega)]
        rw [ref06_Claim_L0, bif_decide (by omega), idx_some hx, wrap_one i (by omega), hz', rlocs_m n p (by omega) (by omega), rthreads_m n p (by omega) (by omega)]
        simp only [Option.bind_some, Int.toNat_natCast, hself, rindex_m n (p.f_Locs.map (·.f_Name)) x.f_Name (by simp; omega) (by simp; omega), rindex_m n (p.f_Threads.map (·.f_Name)) x.f_In (by simp; omega) (by simp; omega), neg_index]
        unfold leafOk leafV leafC opLeaf
        rcases op_cases x.f_Op with g | g | g | g | g | g | g | g | g | g | g | g | g | g | g | g
        · rw [beq_eq_false_iff_ne.2 (by omega), beq_eq_false_iff_ne.2 (by omega), beq_eq_false_iff_ne.2 (by omega), beq_eq_false_iff_ne.2 (by omega), decide_eq_false (by omega)]; (show _ = ref06_Claim_L0 n l p k _ (s.set i ⟨0, 0, 0⟩)); rw [set_same hz]; rfl
        · rw [beq_eq_false_iff_ne.2 (by omega), beq_eq_false_iff_ne.2 (by omega), beq_eq_false_iff_ne.2 (by omega), beq_eq_false_iff_ne.2 (by omega), decide_eq_false (by omega)]; (show _ = ref06_Claim_L0 n l p k _ (s.set i ⟨0, 0, 0⟩)); rw [set_same hz]; rfl
        all_goals rw [g]
        · rfl
        · rfl
        · rfl
        · have key : indexF (p.f_Threads.map (·.f_Name)) x.f_In = match findF (fun t : S_api_Thread => t.f_Name == x.f_In) p.f_Threads 0 with | some i => (i : Int) | none => -1 := by
            rw [indexF, findF_map]; try rfl
          rw [key]
          cases hf : findF (fun t : S_api_Thread => t.f_Name == x.f_In) p.f_Threads 0 with
          | none => rfl
          | some j =>
            obtain ⟨_, h2, t, h3, _⟩ := findF_lt hf
            rw [Nat.sub_zero] at h3
            have hreg := hp.regs t (List.mem_of_getElem? h3)
            have hneg : ((j : Int) != -1) = true := bne_iff_ne.2 (by omega)
            simp only [h3, idx_nat, Option.bind_some, hneg, cond_true]
            rw [rindex_m n _ _ (by omega) (by omega)]
            simp only [Option.bind_some, Int.toNat_natCast, hself, neg_index]
            rfl
        all_goals (show _ = ref06_Claim_L0 n l p k _ (s.set i ⟨0, 0, 0⟩)); rw [set_same hz]; rfl
    have e0 : ((l.length : Nat) : Int).toNat = l.length := Int.toNat_natCast _
    rw [cc, cond_true, e0, hL, okT_all t t1, t2]
    have ea : l.all (fun x => !opLeaf x || (leafC p x).2) = l.all (leafOk (leafC p)) := rfl
    rw [ea]
    obtain ⟨r, r1, r2⟩ := made_code n (lf := leafC p) t1 t2 t3 (by omega)
    cases l.all (leafOk (leafC p)) with
    | false => rfl
    | true =>
      simp only [cond_true, Option.bind_some, r1]
      rw [← r2]
      cases r <;> rfl
end Go.Proofs.Ytmnnkeejgkhgpaa
end

section
namespace Go.Proofs.Ytmnnkeejgkhgpaa
set_option linter.unusedVariables false
set_option linter.unusedSimpArgs false

theorem known06b : m_law06_known 1999 = some true := by decide +kernel
def lightS3 (l : List S_api_Stmt) : Bool := decide (l.length ≤ 60) && l.all fun x => decide (x.f_Reg.length ≤ 100 ∧ x.f_Loc.length ≤ 100) && (lightE x.f_E && lightE x.f_F)
theorem rlightS3_m (n : Nat) (l : List S_api_Stmt) (hn : 300 < n) : m_ref03_Light n l = some (lightS3 l) := by
  obtain ⟨n, rfl⟩ : ∃ j, n = j + 1 := ⟨n - 1, by omega⟩
  rw [m_ref03_Light, lightS3]
  by_cases c : 60 < (l.length : Int)
  · rw [bif_decide c, decide_eq_false (by omega)]; rfl
  have hL : ref03_Light_L0 n l n 0 = bif l.all (fun x => decide (x.f_Reg.length ≤ 100 ∧ x.f_Loc.length ≤ 100) && (lightE x.f_E && lightE x.f_F)) then some (.out ()) else some (.ret false) := by
    refine all_list l (fun k i => ref03_Light_L0 n l k (i : Int)) _ (fun k => ?_) (fun k i x hi hx => ?_) (by omega)
    · rw [ref03_Light_L0, bif_not (by omega)]
    · rw [ref03_Light_L0, bif_decide (by omega), idx_some hx]
      simp only [Option.bind_some, rlightE_m n _ (show 260 < n by omega)]
      rw [wrap_one i (by omega)]
      by_cases h1 : 100 < (x.f_Reg.length : Int)
      · rw [bif_decide h1, decide_eq_false (by omega)]; rfl
      · by_cases h2 : 100 < (x.f_Loc.length : Int)
        · rw [bif_not h1, bif_decide h2, decide_eq_false (by omega)]; rfl
        · rw [bif_not h1, bif_not h2, decide_eq_true (by omega)]
          cases lightE x.f_E <;> cases lightE x.f_F <;> rfl
  rw [bif_not c, hL, decide_eq_true (by omega)]
  cases List.all l _ <;> rfl
def lightN (s : Str) : Bool := decide (s.length ≤ 100)
def lightT (t : S_api_Thread) : Bool := lightN t.f_Name && (decide (t.f_Regs.length ≤ 20) && (lightS3 t.f_Body && t.f_Regs.all lightN))
def lightP (p : S_api_Prog) : Bool := decide (p.f_Locs.length ≤ 20 ∧ p.f_Threads.length ≤ 8 ∧ p.f_Claims.length ≤ 12) && (p.f_Locs.all (fun v => lightN v.f_Name) && (p.f_Threads.all lightT && p.f_Claims.all fun c => lightE c.f_E))
theorem bif_len {α : Type} (s : Str) (a b : α) : (bif decide (100 < ((s.length : Nat) : Int)) then a else b) = bif lightN s then b else a := by
  unfold lightN
  by_cases h : s.length ≤ 100
  · rw [bif_not (by omega), bif_decide h]
  · rw [bif_decide (show 100 < (s.length : Int) by omega), bif_not h]
theorem rlightP_m (n : Nat) (p : S_api_Prog) (hn : 400 < n) : m_ref04_Light n p = some (lightP p) := by
  obtain ⟨n, rfl⟩ : ∃ j, n = j + 1 := ⟨n - 1, by omega⟩
  rw [m_ref04_Light, lightP]
  by_cases c1 : 20 < (p.f_Locs.length : Int)
  · rw [bif_decide c1, decide_eq_false (by omega)]; rfl
  by_cases c2 : 8 < (p.f_Threads.length : Int)
  · rw [bif_not c1, bif_decide c2, decide_eq_false (by omega)]; rfl
  by_cases c3 : 12 < (p.f_Claims.length : Int)
  · rw [bif_not c1, bif_not c2, bif_decide c3, decide_eq_false (by omega)]; rfl
  have h0 : ref04_Light_L0 n p n 0 = bif p.f_Locs.all (fun v => lightN v.f_Name) then some (.out ()) else some (.ret false) := by
    refine all_list p.f_Locs (fun k i => ref04_Light_L0 n p k (i : Int)) _ (fun k => ?_) (fun k i x hi hx => ?_) (by omega)
    · rw [ref04_Light_L0, bif_not (by omega)]
    · rw [ref04_Light_L0, bif_decide (by omega), idx_some hx, Option.bind_some, wrap_one i (by omega), bif_len]
  have h1 : ref04_Light_L1 n p n 0 = bif p.f_Threads.all lightT then some (.out ()) else some (.ret false) := by
    refine all_list p.f_Threads (fun k i => ref04_Light_L1 n p k (i : Int)) _ (fun k => ?_) (fun k i x hi hx => ?_) (by omega)
    · rw [ref04_Light_L1, bif_not (by omega)]
    · rw [ref04_Light_L1, bif_decide (by omega), idx_some hx, Option.bind_some, wrap_one i (by omega), bif_len, rlightS3_m n _ (by omega), Option.bind_some, lightT]
      by_cases c : 20 < (x.f_Regs.length : Int)
      · rw [bif_decide c, decide_eq_false (show ¬ x.f_Regs.length ≤ 20 by omega)]
        cases lightN x.f_Name <;> rfl
      · have h2 : ref04_Light_L2 n x n 0 = bif x.f_Regs.all lightN then some (.out ()) else some (.ret false) := by
          refine all_list x.f_Regs (fun k i => ref04_Light_L2 n x k (i : Int)) _ (fun k => ?_) (fun k i y hi hy => ?_) (by omega)
          · rw [ref04_Light_L2, bif_not (by omega)]
          · rw [ref04_Light_L2, bif_decide (by omega), idx_some hy, Option.bind_some, wrap_one i (by omega), bif_len]
        rw [bif_not c, h2, decide_eq_true (show x.f_Regs.length ≤ 20 by omega)]
        cases lightN x.f_Name <;> cases lightS3 x.f_Body <;> cases x.f_Regs.all lightN <;> rfl
  have h3 : ref04_Light_L3 n p n 0 = bif p.f_Claims.all (fun c => lightE c.f_E) then some (.out ()) else some (.ret false) := by
    refine all_list p.f_Claims (fun k i => ref04_Light_L3 n p k (i : Int)) _ (fun k => ?_) (fun k i x hi hx => ?_) (by omega)
    · rw [ref04_Light_L3, bif_not (by omega)]
    · rw [ref04_Light_L3, bif_decide (by omega), idx_some hx, Option.bind_some, wrap_one i (by omega), rlightE_m n _ (by omega), Option.bind_some]
  rw [bif_not c1, bif_not c2, bif_not c3, h0, h1, h3, decide_eq_true (by omega)]
  cases p.f_Locs.all (fun v => lightN v.f_Name) <;> cases p.f_Threads.all lightT <;> cases p.f_Claims.all (fun c => lightE c.f_E) <;> rfl
theorem lightP_PB {p : S_api_Prog} (h : lightP p = true) : PB p 100 := by
  simp only [lightP, lightT, Bool.and_eq_true, decide_eq_true_eq, List.all_eq_true] at h
  exact ⟨by omega, by omega, by omega, fun t ht => by have := (h.2.2.1 t ht).2.1; omega⟩
theorem same06_refl (n : Nat) (a : List OpS) (h : a.length < 1000000) (hn : a.length + 1 < n) : m_ref06_Same n a a = some true := by
  obtain ⟨n, rfl⟩ : ∃ j, n = j + 1 := ⟨n - 1, by omega⟩
  have hL : ref06_Same_L0 n a a n 0 = bif a.all (fun _ => true) then some (.out ()) else some (.ret false) := by
    refine all_list a (fun k i => ref06_Same_L0 n a a k (i : Int)) _ (fun k => ?_) (fun k i x hi hx => ?_) (by omega)
    · rw [ref06_Same_L0, bif_not (by omega)]
    · rw [ref06_Same_L0, bif_decide (by omega), idx_some hx, Option.bind_some, Option.bind_some, wrap_one i (by omega)]; simp
  have e : a.all (fun _ => true) = true := by simp
  rw [m_ref06_Same, hL, e]; simp
theorem codeOf_len (l : List Nd) (lf : Nd → OpS × Bool) : (codeOf l lf).1.length ≤ 200 := by
  rcases codeOf_cases l lf with ⟨h, e⟩ | ⟨t, h, t1, t2, t3, t4, e⟩
  · rw [e]; simp
  · rw [e]
    cases okT (fun x => (lf x).2) t with
    | false => simp
    | true => show (codeT _ t).length ≤ 200; rw [codeT_len, t2]; exact t3
theorem codeMakes_m (l : List Nd) (regs : List Str) (p : S_api_Prog) : m_law06_CodeMakes 2000 l regs p = some true := by
  rw [m_law06_CodeMakes, known06b, rlightE_m 1999 l (by omega)]
  simp only [Option.bind_some]
  cases hl : lightE l with
  | false => rfl
  | true =>
  rw [cond_true]
  by_cases c : 20 < (regs.length : Int)
  · rw [bif_decide c]
  rw [bif_not c, rlightP_m 1999 p (by omega)]
  simp only [Option.bind_some]
  cases hp : lightP p with
  | false => rfl
  | true =>
  have hl2 : l.length ≤ 250 := by simp only [lightE, Bool.and_eq_true, decide_eq_true_eq] at hl; exact hl.1
  have hL : law06_CodeMakes_L0 1999 regs 1999 0 = some (.out ()) ∨ law06_CodeMakes_L0 1999 regs 1999 0 = some (.ret true) := by
    have := loop_list0 regs (fun k i (_ : Unit) => law06_CodeMakes_L0 1999 regs k (i : Int)) (fun l _ => bif l.all lightN then some (.out ()) else some (.ret true)) (fun _ _ => True) (s := ()) (k := 1999) (by omega) trivial (fun k s _ => ?_) (fun k i s x hi hx _ ih => ?_)
    · have this : law06_CodeMakes_L0 1999 regs 1999 0 = _ := this
      rw [this]
      cases regs.all lightN
      · exact .inr rfl
      · exact .inl rfl
    · rw [law06_CodeMakes_L0, bif_not (by omega)]; rfl
    · rw [law06_CodeMakes_L0, bif_decide (by omega), idx_some hx, Option.bind_some, bif_len, known06b, Option.bind_some, wrap_one i (by omega), ih () trivial, List.all_cons]
      cases lightN x <;> rfl
  have c1 := codeOf_len l (leafT regs)
  have c2 := codeOf_len l (leafC p)
  rw [cond_true, thread_m 1999 l regs (by omega) (by omega) (by omega), rthread_c 1999 l regs hl (by omega) (by omega), claim_m 1999 l p (by omega) (lightP_PB hp) (by omega), rclaim_c 1999 l p hl (lightP_PB hp) (by omega)]
  rcases hL with h | h <;> rw [h]
  · simp only [Option.bind_some]
    rw [same06_refl 1999 _ (by omega) (by omega), same06_refl 1999 _ (by omega) (by omega)]
    simp
  · rfl

end Go.Proofs.Ytmnnkeejgkhgpaa
end

section
namespace Go.Proofs.Ytmnnkeejgkhgpaa
set_option linter.unusedVariables false
set_option linter.unusedSimpArgs false
set_option maxRecDepth 100000

set_option maxHeartbeats 4000000 in
theorem ok_legal_Index (n : Nat) : ∀ (v0_l : (List (List UInt8))) (v1_name : (List UInt8)) (r : Int), m_legal_Index n v0_l v1_name = some r → callN Try.prog HH XT n 28 [AV.sl 1 (List.map encS (v0_l)), AV.str (v1_name)] [] = some (AV.int .i64 (r), []) := by
  cases n with
  | zero => intro v0_l v1_name r hm; exact absurd hm (by intro h; cases h)
  | succ n =>
    intro v0_l v1_name r hm
    rw [m_legal_Index] at hm
    refine callN_eq' Try.func28 (by rfl) rfl rfl (Nat.le_of_ble_eq_true rfl) ?_
    intro call hc
    conv => lhs; whnf
    refine bind_some2 hm ?_; clear hm; intro o9 ho9 hm
    refine rounds_sim (σ := Int) (τ := Unit) (ν := Int) 0 (fun s1 a3 => stOf 19 [(1, AV.str (v1_name)), (7, AV.sl 1 (List.map encS (v0_l))), (8, AV.int .i64 ((((v0_l).length : Nat) : Int))), (9, AV.int .i64 (s1))]) (fun s1 a3 => []) (fun _ a13 => stOf 19 []) (fun _ a13 => []) (fun v => (AV.int .i64 (v), [])) (fun k s => legal_Index_L0 n v0_l v1_name k s) (fun s => rfl) o9 ?_ n 0 (fun _ => 0) _ _ ho9 ?_ (by first | rfl | (simp only [ls, List.map_append, List.map_cons, List.map_nil, List.append_nil, List.length_set, length_copyL] <;> rfl)) (by first | rfl | (simp only [ls, List.map_append, List.map_cons, List.map_nil, List.append_nil, List.length_set, length_copyL] <;> rfl))
    · intro k2 ss a3 K4 cont5 hK6 hcont7 hm hr8
      obtain ⟨s1, rfl⟩ : ∃ x, x = ss := ⟨_, rfl⟩
      replace hm : legal_Index_L0 n v0_l v1_name (k2 + 1) s1 = some o9 := hm
      rw [legal_Index_L0] at hm
      conv => lhs; whnf
      refine bif_or2 hm ?_ ?_ <;> clear hm <;> intro hc10 hm
      · simp only [hc10, ls]
        conv => lhs; whnf
        refine bind_some2 hm ?_; clear hm; intro x11 hx11 hm
        refine bif_pos (by first | exact idx_in hx11 | exact idx_in' hx11) ?_
        simp only [idx_nth (f := encS) hx11, ls]
        conv => lhs; whnf
        refine bif_or2 hm ?_ ?_ <;> clear hm <;> intro hc12 hm
        · simp only [hc12, ls]
          conv => lhs; whnf
          have hq := Option.some.inj hm; clear hm; subst hq
          refine (hK6 _ _).trans ?_
          refine Eq.trans ?_ (Eq.symm (show _ = some _ from hr8))
          conv => lhs; whnf
          try simp only [ls]
          exact fq (y := some (AV.int .i64 (s1), []))
        · simp only [hc12, ls]
          conv => lhs; whnf
          exact cq (hcont7 (IntKind.i64.wrap (s1 + 1)) (fun _ => 0) hm)
      · simp only [hc10, ls]
        conv => lhs; whnf
        have hq := Option.some.inj hm; clear hm; subst hq
        exact kq (hr8 (fun _ => 0))
    · cases o9 with
      | ret v =>
        have hq := Option.some.inj hm; clear hm; subst hq
        rfl
      | out t =>
        intro a13
        dsimp only at hm
        conv => lhs; whnf
        have hq := Option.some.inj hm; clear hm; subst hq
        try simp only [ls]
        exact fq (y := some (AV.int .i64 ((-1)), []))

set_option maxHeartbeats 4000000 in
theorem ok_legal_Locs (n : Nat) : ∀ (v0_p : S_api_Prog) (r : (List (List UInt8))), m_legal_Locs n v0_p = some r → callN Try.prog HH XT n 32 [AV.agg [AV.int .i64 (v0_p.f_Mod), AV.sl 3 (List.map c_api_Var (v0_p.f_Locs)), AV.sl 4 (List.map c_api_Thread (v0_p.f_Threads)), AV.sl 3 (List.map c_api_Claim (v0_p.f_Claims))]] [] = some (AV.sl 1 (List.map encS (r)), []) := by
  cases n with
  | zero => intro v0_p r hm; exact absurd hm (by intro h; cases h)
  | succ n =>
    intro v0_p r hm
    rw [m_legal_Locs] at hm
    refine callN_eq' Try.func32 (by rfl) rfl rfl (Nat.le_of_ble_eq_true rfl) ?_
    intro call hc
    conv => lhs; whnf
    refine bind_some2 hm ?_; clear hm; intro o10 ho10 hm
    refine rounds_sim (σ := (Int × (List (List UInt8)))) (τ := (List (List UInt8))) (ν := (List (List UInt8))) 0 (fun (s1, s2) a4 => stOf 20 [(3, AV.row 1 (List.length (s2))), (7, AV.sl 3 (List.map c_api_Var (v0_p.f_Locs))), (8, AV.int .i64 ((((v0_p.f_Locs).length : Nat) : Int))), (9, AV.int .i64 (s1))]) (fun (s1, s2) a4 => [Ob.var 28 [AV.int .i64 (v0_p.f_Mod), AV.sl 3 (List.map c_api_Var (v0_p.f_Locs)), AV.sl 4 (List.map c_api_Thread (v0_p.f_Threads)), AV.sl 3 (List.map c_api_Claim (v0_p.f_Claims))], Ob.row 9 1 (List.map encS (s2))]) (fun x17 a16 => stOf 20 [(3, AV.row 1 (List.length (x17)))]) (fun x17 a16 => [Ob.var 28 [AV.int .i64 (v0_p.f_Mod), AV.sl 3 (List.map c_api_Var (v0_p.f_Locs)), AV.sl 4 (List.map c_api_Thread (v0_p.f_Threads)), AV.sl 3 (List.map c_api_Claim (v0_p.f_Claims))], Ob.row 9 1 (List.map encS (x17))]) (fun v => (AV.sl 1 (List.map encS (v)), [])) (fun k s => legal_Locs_L0 n v0_p k ((s).1) ((s).2)) (fun s => rfl) o10 ?_ n (0, ([] : List (List UInt8))) (fun _ => 0) _ _ ho10 ?_ (by first | rfl | (simp only [ls, List.map_append, List.map_cons, List.map_nil, List.append_nil, List.length_set, length_copyL] <;> rfl)) (by first | rfl | (simp only [ls, List.map_append, List.map_cons, List.map_nil, List.append_nil, List.length_set, length_copyL] <;> rfl))
    · intro k3 ss a4 K5 cont6 hK7 hcont8 hm hr9
      obtain ⟨s1, s2⟩ := ss
      replace hm : legal_Locs_L0 n v0_p (k3 + 1) s1 s2 = some o10 := hm
      rw [legal_Locs_L0] at hm
      conv => lhs; whnf
      refine bif_or2 hm ?_ ?_ <;> clear hm <;> intro hc11 hm
      · simp only [hc11, ls]
        conv => lhs; whnf
        refine bind_some2 hm ?_; clear hm; intro x12 hx12 hm
        refine bif_pos (by first | exact idx_in hx12 | exact idx_in' hx12) ?_
        simp only [idx_nth (f := c_api_Var) hx12, ls]
        conv => lhs; whnf
        refine chk_some2 hm ?_; clear hm; intro hc15 hm
        refine bif_pos (app_row hc15 (by first | rfl | simp only [List.length_map]) (by first | rfl | simp only [List.length_map]) (by first | rfl | simp only [List.length_map, take_map_len]) (by kernel_rfl)) ?_
        try simp only [lt]
        have hp13 : (List.map encS (s2) : List (List AV)) ++ [[AV.str (x12.f_Name)]] = List.map encS (s2 ++ ([x12.f_Name] : List (List UInt8))) := by first | rfl | (rw [List.map_append]; rfl) | (rw [List.map_append]; done) | (simp only [List.map_append, List.map_cons, List.map_nil, List.nil_append, encS] <;> rfl)
        have hl14 : List.length (List.map encS (s2) : List (List AV)) + List.length ([[AV.str (x12.f_Name)]] : List (List AV)) = List.length (s2 ++ ([x12.f_Name] : List (List UInt8))) := by simp only [List.length_map, List.length_append] <;> rfl
        have hl14_b : List.length s2 + List.length ([[AV.str (x12.f_Name)]] : List (List AV)) = List.length (s2 ++ ([x12.f_Name] : List (List UInt8))) := by simp only [List.length_map, List.length_append] <;> rfl
        have hl14_c : List.length s2 + List.length ([x12.f_Name] : List (List UInt8)) = List.length (s2 ++ ([x12.f_Name] : List (List UInt8))) := by simp only [List.length_map, List.length_append] <;> rfl
        first | simp only [hp13, hl14] | (simp only [List.length_map, take_map_len]; simp only [hp13, hl14_b, hl14_c])
        try simp only [ls]
        conv => lhs; whnf
        exact cq (hcont8 (IntKind.i64.wrap (s1 + 1), (s2 ++ ([x12.f_Name] : List (List UInt8)))) (fun _ => 0) hm)
      · simp only [hc11, ls]
        conv => lhs; whnf
        have hq := Option.some.inj hm; clear hm; subst hq
        exact kq (hr9 (fun _ => 0))
    · cases o10 with
      | ret v =>
        have hq := Option.some.inj hm; clear hm; subst hq
        rfl
      | out t =>
        obtain ⟨x17, rfl⟩ : ∃ x, x = t := ⟨_, rfl⟩
        intro a16
        dsimp only at hm
        conv => lhs; whnf
        have hq := Option.some.inj hm; clear hm; subst hq
        try simp only [ls]
        exact fq (y := some (AV.sl 1 (List.take (List.length (x17)) (List.map encS (x17))), []))
end Go.Proofs.Ytmnnkeejgkhgpaa
end

section
namespace Go.Proofs.Ytmnnkeejgkhgpaa
set_option linter.unusedVariables false
set_option linter.unusedSimpArgs false
set_option maxRecDepth 100000

set_option maxHeartbeats 4000000 in
theorem ok_code_Claim_1 (n : Nat) : ∀ (v0_x : S_api_Node) (o0 : (List (List UInt8))) (o1_Mod : Int) (o1_Locs : (List S_api_Var)) (o1_Threads : (List S_api_Thread)) (o1_Claims : (List S_api_Claim)) (r : (OpS × Bool)), m_code_Claim_1 n v0_x o0 o1_Mod o1_Locs o1_Threads o1_Claims = some r → callN Try.prog HH XT n 33 [AV.agg [AV.int .i64 (v0_x.f_Op), AV.int .i64 (v0_x.f_N), AV.str (v0_x.f_Name), AV.str (v0_x.f_In), AV.int .i64 (v0_x.f_At)], AV.ptr 0 0, AV.ptr 1 0] [Ob.var 23 [AV.sl 1 (List.map encS (o0))], Ob.var 28 [AV.int .i64 (o1_Mod), AV.sl 3 (List.map c_api_Var (o1_Locs)), AV.sl 4 (List.map c_api_Thread (o1_Threads)), AV.sl 3 (List.map c_api_Claim (o1_Claims))]] = some (AV.tup [AV.agg [AV.int .i64 ((r).1.op), AV.int .i64 ((r).1.n), AV.int .i64 ((r).1.t)], AV.bool ((r).2)], [Ob.var 23 [AV.sl 1 (List.map encS (o0))], Ob.var 28 [AV.int .i64 (o1_Mod), AV.sl 3 (List.map c_api_Var (o1_Locs)), AV.sl 4 (List.map c_api_Thread (o1_Threads)), AV.sl 3 (List.map c_api_Claim (o1_Claims))]]) := by
  cases n with
  | zero => intro v0_x o0 o1_Mod o1_Locs o1_Threads o1_Claims r hm; exact absurd hm (by intro h; cases h)
  | succ n =>
    intro v0_x o0 o1_Mod o1_Locs o1_Threads o1_Claims r hm
    rw [m_code_Claim_1] at hm
    refine callN_eq' Try.func33 (by rfl) rfl rfl (Nat.le_of_ble_eq_true rfl) ?_
    intro call hc
    conv => lhs; whnf
    refine bif_or2 hm ?_ ?_ <;> clear hm <;> intro hc1 hm
    · simp only [hc1, ls]
      conv => lhs; whnf
      have hq := Option.some.inj hm; clear hm; subst hq
      try simp only [ls]
      exact fq (y := some (AV.tup [AV.agg [AV.int .i64 (1), AV.int .i64 (v0_x.f_N), AV.int .i64 (0)], AV.bool (true)], [Ob.var 23 [AV.sl 1 (List.map encS (o0))], Ob.var 28 [AV.int .i64 (o1_Mod), AV.sl 3 (List.map c_api_Var (o1_Locs)), AV.sl 4 (List.map c_api_Thread (o1_Threads)), AV.sl 3 (List.map c_api_Claim (o1_Claims))]]))
    · simp only [hc1, ls]
      conv => lhs; whnf
      refine bif_or2 hm ?_ ?_ <;> clear hm <;> intro hc2 hm
      · simp only [hc2, ls]
        conv => lhs; whnf
        refine bind_some2 hm ?_; clear hm; intro y3 hy3 hm
        have hk4 : call false 28 [AV.sl 1 (List.map encS (o0)), AV.str (v0_x.f_Name)] [] = some (AV.int .i64 (y3), []) := (hc _ _ _).trans (ok_legal_Index n o0 v0_x.f_Name y3 hy3)
        try simp only [List.drop_zero, ls]
        first | simp only [hk4] | rewrite [hk4]
        try simp only [ls]
        conv => lhs; whnf
        have hq := Option.some.inj hm; clear hm; subst hq
        try simp only [ls]
        exact fq (y := some (AV.tup [AV.agg [AV.int .i64 (3), AV.int .i64 (y3), AV.int .i64 (0)], AV.bool ((y3 != (-1)))], [Ob.var 23 [AV.sl 1 (List.map encS (o0))], Ob.var 28 [AV.int .i64 (o1_Mod), AV.sl 3 (List.map c_api_Var (o1_Locs)), AV.sl 4 (List.map c_api_Thread (o1_Threads)), AV.sl 3 (List.map c_api_Claim (o1_Claims))]]))
      · simp only [hc2, ls]
        conv => lhs; whnf
        refine bif_or2 hm ?_ ?_ <;> clear hm <;> intro hc5 hm
        · simp only [hc5, ls]
          conv => lhs; whnf
          refine bind_some2 hm ?_; clear hm; intro o14 ho14 hm
          refine rounds_sim (σ := Int) (τ := Unit) (ν := (OpS × Bool)) 1 (fun s6 a8 => stOf 54 [(3, AV.ptr 2 0), (4, AV.ptr 3 0), (30, AV.sl 4 (List.map c_api_Thread (o1_Threads))), (31, AV.int .i64 ((((o1_Threads).length : Nat) : Int))), (32, AV.int .i64 (s6))]) (fun s6 a8 => [Ob.var 23 [AV.sl 1 (List.map encS (o0))], Ob.var 28 [AV.int .i64 (o1_Mod), AV.sl 3 (List.map c_api_Var (o1_Locs)), AV.sl 4 (List.map c_api_Thread (o1_Threads)), AV.sl 3 (List.map c_api_Claim (o1_Claims))], Ob.var 57 [AV.int .i64 (v0_x.f_Op), AV.int .i64 (v0_x.f_N), AV.str (v0_x.f_Name), AV.str (v0_x.f_In), AV.int .i64 (v0_x.f_At)], Ob.var 53 [AV.int .i64 (0), AV.int .i64 (0), AV.int .i64 (0)]]) (fun _ a20 => stOf 54 [(4, AV.ptr 3 0)]) (fun _ a20 => [Ob.var 23 [AV.sl 1 (List.map encS (o0))], Ob.var 28 [AV.int .i64 (o1_Mod), AV.sl 3 (List.map c_api_Var (o1_Locs)), AV.sl 4 (List.map c_api_Thread (o1_Threads)), AV.sl 3 (List.map c_api_Claim (o1_Claims))], Ob.var 57 [AV.int .i64 (v0_x.f_Op), AV.int .i64 (v0_x.f_N), AV.str (v0_x.f_Name), AV.str (v0_x.f_In), AV.int .i64 (v0_x.f_At)], Ob.var 53 [AV.int .i64 (0), AV.int .i64 (0), AV.int .i64 (0)]]) (fun v => (AV.tup [AV.agg [AV.int .i64 ((v).1.op), AV.int .i64 ((v).1.n), AV.int .i64 ((v).1.t)], AV.bool ((v).2)], [Ob.var 23 [AV.sl 1 (List.map encS (o0))], Ob.var 28 [AV.int .i64 (o1_Mod), AV.sl 3 (List.map c_api_Var (o1_Locs)), AV.sl 4 (List.map c_api_Thread (o1_Threads)), AV.sl 3 (List.map c_api_Claim (o1_Claims))]])) (fun k s => code_Claim_1_L0 n v0_x o1_Threads k s) (fun s => rfl) o14 ?_ n 0 (fun _ => 0) _ _ ho14 ?_ (by first | rfl | (simp only [ls, List.map_append, List.map_cons, List.map_nil, List.append_nil, List.length_set, length_copyL] <;> rfl)) (by first | rfl | (simp only [ls, List.map_append, List.map_cons, List.map_nil, List.append_nil, List.length_set, length_copyL] <;> rfl))
          · intro k7 ss a8 K9 cont10 hK11 hcont12 hm hr13
            obtain ⟨s6, rfl⟩ : ∃ x, x = ss := ⟨_, rfl⟩
            replace hm : code_Claim_1_L0 n v0_x o1_Threads (k7 + 1) s6 = some o14 := hm
            rw [code_Claim_1_L0] at hm
            conv => lhs; whnf
            refine bif_or2 hm ?_ ?_ <;> clear hm <;> intro hc15 hm
            · simp only [hc15, ls]
              conv => lhs; whnf
              refine bind_some2 hm ?_; clear hm; intro x16 hx16 hm
              refine bif_pos (by first | exact idx_in hx16 | exact idx_in' hx16) ?_
              simp only [idx_nth (f := c_api_Thread) hx16, ls]
              conv => lhs; whnf
              refine bif_or2 hm ?_ ?_ <;> clear hm <;> intro hc17 hm
              · simp only [hc17, ls]
                conv => lhs; whnf
                refine bind_some2 hm ?_; clear hm; intro y18 hy18 hm
                have hk19 : call false 28 [AV.sl 1 (List.map encS (x16.f_Regs)), AV.str (v0_x.f_Name)] [] = some (AV.int .i64 (y18), []) := (hc _ _ _).trans (ok_legal_Index n x16.f_Regs v0_x.f_Name y18 hy18)
                try simp only [List.drop_zero, ls]
                first | simp only [hk19] | rewrite [hk19]
                try simp only [ls]
                conv => lhs; whnf
                have hq := Option.some.inj hm; clear hm; subst hq
                refine (hK11 _ _).trans ?_
                refine Eq.trans ?_ (Eq.symm (show _ = some _ from hr13))
                conv => lhs; whnf
                try simp only [ls]
                exact fq (y := some (AV.tup [AV.agg [AV.int .i64 (4), AV.int .i64 (y18), AV.int .i64 (s6)], AV.bool ((y18 != (-1)))], [Ob.var 23 [AV.sl 1 (List.map encS (o0))], Ob.var 28 [AV.int .i64 (o1_Mod), AV.sl 3 (List.map c_api_Var (o1_Locs)), AV.sl 4 (List.map c_api_Thread (o1_Threads)), AV.sl 3 (List.map c_api_Claim (o1_Claims))]]))
              · simp only [hc17, ls]
                conv => lhs; whnf
                exact cq (hcont12 (IntKind.i64.wrap (s6 + 1)) (fun _ => 0) hm)
            · simp only [hc15, ls]
              conv => lhs; whnf
              have hq := Option.some.inj hm; clear hm; subst hq
              exact kq (hr13 (fun _ => 0))
          · cases o14 with
            | ret v =>
              have hq := Option.some.inj hm; clear hm; subst hq
              rfl
            | out t =>
              intro a20
              dsimp only at hm
              conv => lhs; whnf
              have hq := Option.some.inj hm; clear hm; subst hq
              try simp only [ls]
              exact fq (y := some (AV.tup [AV.agg [AV.int .i64 (0), AV.int .i64 (0), AV.int .i64 (0)], AV.bool (false)], [Ob.var 23 [AV.sl 1 (List.map encS (o0))], Ob.var 28 [AV.int .i64 (o1_Mod), AV.sl 3 (List.map c_api_Var (o1_Locs)), AV.sl 4 (List.map c_api_Thread (o1_Threads)), AV.sl 3 (List.map c_api_Claim (o1_Claims))]]))
        · simp only [hc5, ls]
          conv => lhs; whnf
          have hq := Option.some.inj hm; clear hm; subst hq
          try simp only [ls]
          exact fq (y := some (AV.tup [AV.agg [AV.int .i64 (0), AV.int .i64 (0), AV.int .i64 (0)], AV.bool (false)], [Ob.var 23 [AV.sl 1 (List.map encS (o0))], Ob.var 28 [AV.int .i64 (o1_Mod), AV.sl 3 (List.map c_api_Var (o1_Locs)), AV.sl 4 (List.map c_api_Thread (o1_Threads)), AV.sl 3 (List.map c_api_Claim (o1_Claims))]]))

set_option maxHeartbeats 4000000 in
theorem ok_code_of (n : Nat) : ∀ (v0_op : Int) (r : R_code_of), m_code_of n v0_op = some r → callN Try.prog HH XT n 37 [AV.int .i64 (v0_op)] [] = some ((match (r : R_code_of) with | .c0 y => AV.tup [AV.agg [AV.int .i64 ((y).1), AV.nilf], AV.bool ((y).2)] | .c1 y => AV.tup [AV.agg [AV.int .i64 ((y).1), AV.func 59 [] []], AV.bool ((y).2)] | .c2 y => AV.tup [AV.agg [AV.int .i64 ((y).1), AV.func 58 [] []], AV.bool ((y).2)] | .c3 y => AV.tup [AV.agg [AV.int .i64 ((y).1), AV.func 57 [] []], AV.bool ((y).2)] | .c4 y => AV.tup [AV.agg [AV.int .i64 ((y).1), AV.func 56 [] []], AV.bool ((y).2)] | .c5 y => AV.tup [AV.agg [AV.int .i64 ((y).1), AV.func 55 [] []], AV.bool ((y).2)] | .c6 y => AV.tup [AV.agg [AV.int .i64 ((y).1), AV.func 54 [] []], AV.bool ((y).2)] | .c7 y => AV.tup [AV.agg [AV.int .i64 ((y).1), AV.func 53 [] []], AV.bool ((y).2)] | .c8 y => AV.tup [AV.agg [AV.int .i64 ((y).1), AV.func 52 [] []], AV.bool ((y).2)] | .c9 y => AV.tup [AV.agg [AV.int .i64 ((y).1), AV.func 51 [] []], AV.bool ((y).2)] | .c10 y => AV.tup [AV.agg [AV.int .i64 ((y).1), AV.func 49 [] []], AV.bool ((y).2)]), (match (r : R_code_of) with | .c0 y => [] | .c1 y => [] | .c2 y => [] | .c3 y => [] | .c4 y => [] | .c5 y => [] | .c6 y => [] | .c7 y => [] | .c8 y => [] | .c9 y => [] | .c10 y => [])) := by
  cases n with
  | zero => intro v0_op r hm; exact absurd hm (by intro h; cases h)
  | succ n =>
    intro v0_op r hm
    rw [m_code_of] at hm
    refine callN_eq' Try.func37 (by rfl) rfl rfl (Nat.le_of_ble_eq_true rfl) ?_
    intro call hc
    conv => lhs; whnf
    refine bif_or2 hm ?_ ?_ <;> clear hm <;> intro hc1 hm
    · simp only [hc1, ls]
      conv => lhs; whnf
      have hq := Option.some.inj hm; clear hm; subst hq
      try simp only [ls]
      exact fq (y := some (AV.tup [AV.agg [AV.int .i64 (0), AV.nilf], AV.bool (false)], []))
    · simp only [hc1, ls]
      conv => lhs; whnf
      refine bif_or2 hm ?_ ?_ <;> clear hm <;> intro hc2 hm
      · simp only [hc2, ls]
        conv => lhs; whnf
        have hq := Option.some.inj hm; clear hm; subst hq
        try simp only [ls]
        exact fq (y := some (AV.tup [AV.agg [AV.int .i64 (0), AV.nilf], AV.bool (false)], []))
      · simp only [hc2, ls]
        conv => lhs; whnf
        refine bif_or2 hm ?_ ?_ <;> clear hm <;> intro hc3 hm
        · simp only [hc3, ls]
          conv => lhs; whnf
          have hq := Option.some.inj hm; clear hm; subst hq
          try simp only [ls]
          exact fq (y := some (AV.tup [AV.agg [AV.int .i64 (2), AV.func 59 [] []], AV.bool (true)], []))
        · simp only [hc3, ls]
          conv => lhs; whnf
          refine bif_or2 hm ?_ ?_ <;> clear hm <;> intro hc4 hm
          · simp only [hc4, ls]
            conv => lhs; whnf
            have hq := Option.some.inj hm; clear hm; subst hq
            try simp only [ls]
            exact fq (y := some (AV.tup [AV.agg [AV.int .i64 (2), AV.func 58 [] []], AV.bool (true)], []))
          · simp only [hc4, ls]
            conv => lhs; whnf
            refine bif_or2 hm ?_ ?_ <;> clear hm <;> intro hc5 hm
            · simp only [hc5, ls]
              conv => lhs; whnf
              have hq := Option.some.inj hm; clear hm; subst hq
              try simp only [ls]
              exact fq (y := some (AV.tup [AV.agg [AV.int .i64 (2), AV.func 57 [] []], AV.bool (true)], []))
            · simp only [hc5, ls]
              conv => lhs; whnf
              refine bif_or2 hm ?_ ?_ <;> clear hm <;> intro hc6 hm
              · simp only [hc6, ls]
                conv => lhs; whnf
                have hq := Option.some.inj hm; clear hm; subst hq
                try simp only [ls]
                exact fq (y := some (AV.tup [AV.agg [AV.int .i64 (2), AV.func 56 [] []], AV.bool (true)], []))
              · simp only [hc6, ls]
                conv => lhs; whnf
                refine bif_or2 hm ?_ ?_ <;> clear hm <;> intro hc7 hm
                · simp only [hc7, ls]
                  conv => lhs; whnf
                  have hq := Option.some.inj hm; clear hm; subst hq
                  try simp only [ls]
                  exact fq (y := some (AV.tup [AV.agg [AV.int .i64 (2), AV.func 55 [] []], AV.bool (true)], []))
                · simp only [hc7, ls]
                  conv => lhs; whnf
                  refine bif_or2 hm ?_ ?_ <;> clear hm <;> intro hc8 hm
                  · simp only [hc8, ls]
                    conv => lhs; whnf
                    have hq := Option.some.inj hm; clear hm; subst hq
                    try simp only [ls]
                    exact fq (y := some (AV.tup [AV.agg [AV.int .i64 (2), AV.func 54 [] []], AV.bool (true)], []))
                  · simp only [hc8, ls]
                    conv => lhs; whnf
                    refine bif_or2 hm ?_ ?_ <;> clear hm <;> intro hc9 hm
                    · simp only [hc9, ls]
                      conv => lhs; whnf
                      have hq := Option.some.inj hm; clear hm; subst hq
                      try simp only [ls]
                      exact fq (y := some (AV.tup [AV.agg [AV.int .i64 (2), AV.func 53 [] []], AV.bool (true)], []))
                    · simp only [hc9, ls]
                      conv => lhs; whnf
                      refine bif_or2 hm ?_ ?_ <;> clear hm <;> intro hc10 hm
                      · simp only [hc10, ls]
                        conv => lhs; whnf
                        have hq := Option.some.inj hm; clear hm; subst hq
                        try simp only [ls]
                        exact fq (y := some (AV.tup [AV.agg [AV.int .i64 (2), AV.func 52 [] []], AV.bool (true)], []))
                      · simp only [hc10, ls]
                        conv => lhs; whnf
                        refine bif_or2 hm ?_ ?_ <;> clear hm <;> intro hc11 hm
                        · simp only [hc11, ls]
                          conv => lhs; whnf
                          have hq := Option.some.inj hm; clear hm; subst hq
                          try simp only [ls]
                          exact fq (y := some (AV.tup [AV.agg [AV.int .i64 (2), AV.func 51 [] []], AV.bool (true)], []))
                        · simp only [hc11, ls]
                          conv => lhs; whnf
                          refine bif_or2 hm ?_ ?_ <;> clear hm <;> intro hc12 hm
                          · simp only [hc12, ls]
                            conv => lhs; whnf
                            have hq := Option.some.inj hm; clear hm; subst hq
                            try simp only [ls]
                            exact fq (y := some (AV.tup [AV.agg [AV.int .i64 (1), AV.func 49 [] []], AV.bool (true)], []))
                          · simp only [hc12, ls]
                            conv => lhs; whnf
                            refine bif_or2 hm ?_ ?_ <;> clear hm <;> intro hc13 hm
                            · simp only [hc13, ls]
                              conv => lhs; whnf
                              have hq := Option.some.inj hm; clear hm; subst hq
                              try simp only [ls]
                              exact fq (y := some (AV.tup [AV.agg [AV.int .i64 (0), AV.nilf], AV.bool (true)], []))
                            · simp only [hc13, ls]
                              conv => lhs; whnf
                              refine bif_or2 hm ?_ ?_ <;> clear hm <;> intro hc14 hm
                              · simp only [hc14, ls]
                                conv => lhs; whnf
                                have hq := Option.some.inj hm; clear hm; subst hq
                                try simp only [ls]
                                exact fq (y := some (AV.tup [AV.agg [AV.int .i64 (0), AV.nilf], AV.bool (true)], []))
                              · simp only [hc14, ls]
                                conv => lhs; whnf
                                refine bif_or2 hm ?_ ?_ <;> clear hm <;> intro hc15 hm
                                · simp only [hc15, ls]
                                  conv => lhs; whnf
                                  have hq := Option.some.inj hm; clear hm; subst hq
                                  try simp only [ls]
                                  exact fq (y := some (AV.tup [AV.agg [AV.int .i64 (0), AV.nilf], AV.bool (true)], []))
                                · simp only [hc15, ls]
                                  conv => lhs; whnf
                                  refine bif_or2 hm ?_ ?_ <;> clear hm <;> intro hc16 hm
                                  · simp only [hc16, ls]
                                    conv => lhs; whnf
                                    have hq := Option.some.inj hm; clear hm; subst hq
                                    try simp only [ls]
                                    exact fq (y := some (AV.tup [AV.agg [AV.int .i64 (0), AV.nilf], AV.bool (true)], []))
                                  · simp only [hc16, ls]
                                    conv => lhs; whnf
                                    refine bif_or2 hm ?_ ?_ <;> clear hm <;> intro hc17 hm
                                    · simp only [hc17, ls]
                                      conv => lhs; whnf
                                      have hq := Option.some.inj hm; clear hm; subst hq
                                      try simp only [ls]
                                      exact fq (y := some (AV.tup [AV.agg [AV.int .i64 (0), AV.nilf], AV.bool (true)], []))
                                    · cases hm
end Go.Proofs.Ytmnnkeejgkhgpaa
end

