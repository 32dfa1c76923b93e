/- Parts of the proofs: what they lean on. Conditions: none. -/
import Derived.Test.YtjobghbdfannfaaProg
import Derived.Test.YtjobghbdfannfaaExprS10
section
namespace Go.Proofs.Ytjobghbdfannfaa
set_option linter.unusedVariables false
set_option linter.unusedSimpArgs false
theorem rep_one {α : Type} {r : Rd α} {f : α → AV} (he : Enc r (fun x => [f x])) {W : World} {s : Option Addr} {len cap : Nat} {x : α} (h : r.rel W (Value.slice s len cap).cells.toList x) : Rep (SAll W) W [] [] (f x) (.slice s len cap) := by
  obtain ⟨h1, _⟩ := he _ _ _ h
  cases h1 with | cons _ _ _ _ _ _ h t => exact h
def rd_int_i64 : Rd Int := rInt .i64
theorem op_int_i64 : Opens Try.prog 3 rd_int_i64 := opens_int Try.underlying3 (by kernel_rfl)
theorem en_int_i64 : Enc rd_int_i64 encI := enc_int _
def rd_string : Rd (List UInt8) := rStr
theorem op_string : Opens Try.prog 9 rd_string := opens_str Try.underlying9 (by kernel_rfl)
theorem en_string : Enc rd_string encS := enc_str
def rd_api_Node : Rd S_api_Node := rMap (fun x => ⟨x.1, x.2.1, x.2.2.1, x.2.2.2.1, x.2.2.2.2⟩) (rPair rd_int_i64 (rPair rd_int_i64 (rPair rd_string (rPair rd_string rd_int_i64))))
theorem op_api_Node : Opens Try.prog 32 rd_api_Node := opens_map _ (opens_struct Try.underlying32 (by kernel_rfl) (fields_cons rfl op_int_i64 (fields_cons rfl op_int_i64 (fields_cons rfl op_string (fields_cons rfl op_string (fields_one rfl op_int_i64) (by decide)) (by decide)) (by decide)) (by decide)))
theorem en_api_Node : Enc rd_api_Node c_api_Node := enc_map (fun _ => rfl) (enc_pair en_int_i64 (enc_pair en_int_i64 (enc_pair en_string (enc_pair en_string en_int_i64))))
def rd_sl_api_Node : Rd (List S_api_Node) := rSlice rd_api_Node
theorem op_sl_api_Node : Opens Try.prog 22 rd_sl_api_Node := opens_slice Try.underlying22 (by kernel_rfl) op_api_Node (by decide)
theorem en_sl_api_Node : Enc rd_sl_api_Node (fun l => [AV.sl 5 (l.map c_api_Node)]) := enc_slice en_api_Node
end Go.Proofs.Ytjobghbdfannfaa
end

section
namespace Go.Proofs.Ytjobghbdfannfaa
set_option linter.unusedVariables false
set_option linter.unusedSimpArgs false
set_option maxRecDepth 100000

def ref01_gap_L1 (n : Nat)  (v0_s : (List UInt8)) : Nat → Int → Option (LR Int Int)
  | 0, _ => none
  | k22+1, s21 => (bif decide (s21 < (((v0_s).length : Nat) : Int)) then ((idx v0_s s21).bind fun x31 => (bif (((x31).toNat : Int) != 10) then (ref01_gap_L1 n v0_s k22 (IntKind.i64.wrap (s21 + 1))) else (some (.out s21)))) else (some (.out s21)))
def ref01_gap_L0 (n : Nat)  (v0_s : (List UInt8)) : Nat → Int → Option (LR Int Int)
  | 0, _ => none
  | k2+1, s1 => (bif decide (s1 < (((v0_s).length : Nat) : Int)) then ((idx v0_s s1).bind fun x11 => (bif (((x11).toNat : Int) == 32) then (ref01_gap_L0 n v0_s k2 (IntKind.i64.wrap (s1 + 1))) else ((idx v0_s s1).bind fun x13 => (bif (((x13).toNat : Int) == 9) then (ref01_gap_L0 n v0_s k2 (IntKind.i64.wrap (s1 + 1))) else ((idx v0_s s1).bind fun x15 => (bif (((x15).toNat : Int) == 10) then (ref01_gap_L0 n v0_s k2 (IntKind.i64.wrap (s1 + 1))) else ((idx v0_s s1).bind fun x17 => (bif (((x17).toNat : Int) == 13) then (ref01_gap_L0 n v0_s k2 (IntKind.i64.wrap (s1 + 1))) else ((idx v0_s s1).bind fun x19 => (bif (((x19).toNat : Int) == 35) then ((ref01_gap_L1 n v0_s n s1).bind fun o29 => match o29 with | .out x34 => (ref01_gap_L0 n v0_s k2 x34) | .ret v => some (.ret v)) else (some (.ret s1)))))))))))) else (some (.out s1)))
def m_ref01_gap : Nat → (List UInt8) → Int → Option Int
  | 0, _, _ => none
  | n+1, v0_s, v1_at => ((ref01_gap_L0 n v0_s n v1_at).bind fun o9 => match o9 with | .out x37 => (some x37) | .ret v => some v)

def m_ref01_digit : Nat → Int → Option Bool
  | 0, _ => none
  | n+1, v0_c => (bif decide (48 ≤ v0_c) then (some (decide (v0_c ≤ 57))) else (some false))

def m_ref01_letter : Nat → Int → Option Bool
  | 0, _ => none
  | n+1, v0_c => (bif decide (97 ≤ v0_c) then (bif decide (v0_c ≤ 122) then (some true) else (bif decide (65 ≤ v0_c) then (bif decide (v0_c ≤ 90) then (some true) else (some (v0_c == 95))) else (some (v0_c == 95)))) else (bif decide (65 ≤ v0_c) then (bif decide (v0_c ≤ 90) then (some true) else (some (v0_c == 95))) else (some (v0_c == 95))))

def m_ref01_signs : Nat → Option (List (List UInt8))
  | 0 => none
  | n+1 => (some ([([61, 61] : List UInt8), ([33, 61] : List UInt8), ([60, 61] : List UInt8), ([38, 38] : List UInt8), ([124, 124] : List UInt8), ([59] : List UInt8), ([44] : List UInt8), ([123] : List UInt8), ([125] : List UInt8), ([40] : List UInt8), ([41] : List UInt8), ([46] : List UInt8), ([61] : List UInt8), ([43] : List UInt8), ([45] : List UInt8), ([42] : List UInt8), ([33] : List UInt8), ([60] : List UInt8)] : List (List UInt8)))

def ref01_one_L0 (n : Nat)  (v0_s : (List UInt8)) (v1_at : Int) : Nat → Int → Option (LR Int (S_api_Token × Int))
  | 0, _ => none
  | k2+1, s1 => (bif decide (s1 < (((v0_s).length : Nat) : Int)) then ((idx v0_s s1).bind fun x11 => ((m_ref01_letter n ((x11).toNat : Int)).bind fun y12 => (bif y12 then (ref01_one_L0 n v0_s v1_at k2 (IntKind.i64.wrap (s1 + 1))) else (bif decide (v1_at < s1) then ((idx v0_s s1).bind fun x16 => ((m_ref01_digit n ((x16).toNat : Int)).bind fun y17 => (bif y17 then (ref01_one_L0 n v0_s v1_at k2 (IntKind.i64.wrap (s1 + 1))) else (some (.out s1))))) else (some (.out s1)))))) else (some (.out s1)))
def ref01_one_L1 (n : Nat)  (v0_s : (List UInt8)) : Nat → Int → Int → Option (LR (Int × Int) (S_api_Token × Int))
  | 0, _, _ => none
  | k27+1, s25, s26 => (bif decide (s25 < (((v0_s).length : Nat) : Int)) then ((idx v0_s s25).bind fun x36 => ((m_ref01_digit n ((x36).toNat : Int)).bind fun y37 => (bif y37 then ((idx v0_s s25).bind fun x40 => (ref01_one_L1 n v0_s k27 (IntKind.i64.wrap (s25 + 1)) (if 10000 < (IntKind.i64.wrap ((IntKind.i64.wrap (10 * s26)) + (IntKind.i64.wrap (IntKind.u8.wrap (((x40).toNat : Int) - 48))))) then 10000 else (IntKind.i64.wrap ((IntKind.i64.wrap (10 * s26)) + (IntKind.i64.wrap (IntKind.u8.wrap (((x40).toNat : Int) - 48)))))))) else (some (.out (s25, s26)))))) else (some (.out (s25, s26))))
def ref01_one_L2 (n : Nat)  (v0_s : (List UInt8)) (v1_at : Int) (y47 : (List (List UInt8))) : Nat → Int → Option (LR Unit (S_api_Token × Int))
  | 0, _ => none
  | k50+1, s49 => (bif decide (s49 < (((y47).length : Nat) : Int)) then ((idx y47 s49).bind fun x59 => (bif decide ((IntKind.i64.wrap (v1_at + (((x59).length : Nat) : Int))) ≤ (((v0_s).length : Nat) : Int)) then (bif (decide (0 ≤ (IntKind.i64.wrap (v1_at + (((x59).length : Nat) : Int)))) && decide ((IntKind.i64.wrap (v1_at + (((x59).length : Nat) : Int))) ≤ (((v0_s).length : Nat) : Int)) && decide (0 ≤ v1_at) && decide (v1_at ≤ (IntKind.i64.wrap (v1_at + (((x59).length : Nat) : Int))))) then ((idx y47 s49).bind fun x62 => (bif ((List.drop ((v1_at).toNat) (List.take ((IntKind.i64.wrap (v1_at + (((x59).length : Nat) : Int))).toNat) v0_s)) == x62) then ((idx y47 s49).bind fun x64 => (some (.ret ((⟨3, x64, 0, v1_at⟩ : S_api_Token), 0)))) else (ref01_one_L2 n v0_s v1_at y47 k50 (IntKind.i64.wrap (s49 + 1))))) else none) else (ref01_one_L2 n v0_s v1_at y47 k50 (IntKind.i64.wrap (s49 + 1))))) else (some (.out ())))
def m_ref01_one : Nat → (List UInt8) → Int → Option (S_api_Token × Int)
  | 0, _, _ => none
  | n+1, v0_s, v1_at => ((ref01_one_L0 n v0_s v1_at n v1_at).bind fun o9 => match o9 with | .out x21 => (bif decide (v1_at < x21) then (bif decide (16 < (IntKind.i64.wrap (x21 - v1_at))) then (some ((⟨0, ([] : List UInt8), 0, 0⟩ : S_api_Token), 2)) else (bif (decide (0 ≤ x21) && decide (x21 ≤ (((v0_s).length : Nat) : Int)) && decide (0 ≤ v1_at) && decide (v1_at ≤ x21)) then (some ((⟨1, (List.drop ((v1_at).toNat) (List.take ((x21).toNat) v0_s)), 0, v1_at⟩ : S_api_Token), 0)) else none)) else ((ref01_one_L1 n v0_s n x21 0).bind fun o34 => match o34 with | .out (x42, x43) => (bif decide (v1_at < x42) then (bif decide (9999 < x43) then (some ((⟨0, ([] : List UInt8), 0, 0⟩ : S_api_Token), 4)) else (bif (decide (0 ≤ x42) && decide (x42 ≤ (((v0_s).length : Nat) : Int)) && decide (0 ≤ v1_at) && decide (v1_at ≤ x42)) then (some ((⟨2, (List.drop ((v1_at).toNat) (List.take ((x42).toNat) v0_s)), x43, v1_at⟩ : S_api_Token), 0)) else none)) else ((m_ref01_signs n ).bind fun y47 => ((ref01_one_L2 n v0_s v1_at y47 n 0).bind fun o57 => match o57 with | .out _ => (some ((⟨0, ([] : List UInt8), 0, 0⟩ : S_api_Token), 3)) | .ret v => some v))) | .ret v => some v)) | .ret v => some v)

def ref01_Scan_L0 (n : Nat)  (v0_s : (List UInt8)) : Nat → Int → (List S_api_Token) → Option (LR (List S_api_Token) ((List S_api_Token) × Int × Int))
  | 0, _, _ => none
  | k6+1, s4, s5 => (bif decide (s4 < (((v0_s).length : Nat) : Int)) then ((m_ref01_one n v0_s s4).bind fun y15 => (bif (((y15).2) != 0) then (some (.ret (([] : List S_api_Token), (y15).2, s4))) else (bif decide (((s5).length + 1) * 41 ≤ 140737488355328) then ((m_ref01_gap n v0_s (IntKind.i64.wrap (s4 + ((((y15).1.f_Text).length : Nat) : Int)))).bind fun y21 => (ref01_Scan_L0 n v0_s k6 y21 (s5 ++ ([(y15).1] : List S_api_Token)))) else none))) else (some (.out s5)))
def m_ref01_Scan : Nat → (List UInt8) → Option ((List S_api_Token) × Int × Int)
  | 0, _ => none
  | n+1, v0_s => (bif decide (20000 < (((v0_s).length : Nat) : Int)) then (some (([] : List S_api_Token), 2, 20000)) else ((m_ref01_gap n v0_s 0).bind fun y2 => ((ref01_Scan_L0 n v0_s n y2 ([] : List S_api_Token)).bind fun o13 => match o13 with | .out x24 => (some (x24, 0, 0)) | .ret v => some v)))

def m_ref01_words : Nat → Option (List (List UInt8))
  | 0 => none
  | n+1 => (some ([([109, 111, 100] : List UInt8), ([108, 111, 99] : List UInt8), ([116, 104, 114, 101, 97, 100] : List UInt8), ([114, 101, 103] : List UInt8), ([115, 107, 105, 112] : List UInt8), ([115, 101, 116] : List UInt8), ([108, 111, 97, 100] : List UInt8), ([115, 116, 111, 114, 101] : List UInt8), ([99, 97, 115] : List UInt8), ([102, 97, 100, 100] : List UInt8), ([120, 99, 104, 103] : List UInt8), ([102, 101, 110, 99, 101] : List UInt8), ([97, 119, 97, 105, 116] : List UInt8), ([105, 102] : List UInt8), ([101, 108, 115, 101] : List UInt8), ([119, 104, 105, 108, 101] : List UInt8), ([108, 111, 111, 112] : List UInt8), ([98, 114, 101, 97, 107] : List UInt8), ([102, 111, 114, 97, 108, 108] : List UInt8), ([101, 120, 105, 115, 116, 115] : List UInt8), ([97, 108, 119, 97, 121, 115] : List UInt8)] : List (List UInt8)))

def ref01_Keyword_L0 (n : Nat)  (v0_s : (List UInt8)) (y1 : (List (List UInt8))) : Nat → Int → Option (LR Unit Bool)
  | 0, _ => none
  | k4+1, s3 => (bif decide (s3 < (((y1).length : Nat) : Int)) then ((idx y1 s3).bind fun x13 => (bif (x13 == v0_s) then (some (.ret true)) else (ref01_Keyword_L0 n v0_s y1 k4 (IntKind.i64.wrap (s3 + 1))))) else (some (.out ())))
def m_ref01_Keyword : Nat → (List UInt8) → Option Bool
  | 0, _ => none
  | n+1, v0_s => ((m_ref01_words n ).bind fun y1 => ((ref01_Keyword_L0 n v0_s y1 n 0).bind fun o11 => match o11 with | .out _ => (some false) | .ret v => some v))

def ref01_Name_L0 (n : Nat)  (v0_s : (List UInt8)) : Nat → Int → Option (LR Unit Bool)
  | 0, _ => none
  | k11+1, s10 => (bif decide (s10 < (((v0_s).length : Nat) : Int)) then ((idx v0_s s10).bind fun x20 => ((m_ref01_letter n ((x20).toNat : Int)).bind fun y21 => (bif y21 then (ref01_Name_L0 n v0_s k11 (IntKind.i64.wrap (s10 + 1))) else ((idx v0_s s10).bind fun x24 => ((m_ref01_digit n ((x24).toNat : Int)).bind fun y25 => (bif y25 then (ref01_Name_L0 n v0_s k11 (IntKind.i64.wrap (s10 + 1))) else (some (.ret false)))))))) else (some (.out ())))
def m_ref01_Name : Nat → (List UInt8) → Option Bool
  | 0, _ => none
  | n+1, v0_s => (bif decide ((((v0_s).length : Nat) : Int) < 1) then (some false) else (bif decide (16 < (((v0_s).length : Nat) : Int)) then (some false) else ((idx v0_s 0).bind fun x3 => ((m_ref01_letter n ((x3).toNat : Int)).bind fun y4 => (bif y4 then ((m_ref01_Keyword n v0_s).bind fun y7 => (bif y7 then (some false) else ((ref01_Name_L0 n v0_s n 0).bind fun o18 => match o18 with | .out _ => (some true) | .ret v => some v))) else (some false))))))

def m_ref01_Digits : Nat → Int → Option (List UInt8)
  | 0, _ => none
  | n+1, v0_n => (bif decide (v0_n < 10) then (some ([UInt8.ofNat (IntKind.u8.wrap (IntKind.i64.wrap (48 + v0_n))).toNat] : List UInt8)) else (((m_ref01_Digits n) (IntKind.i64.wrap (Int.tdiv v0_n 10))).bind fun y2 => (bif decide ((y2).length + (([UInt8.ofNat (IntKind.u8.wrap (IntKind.i64.wrap (48 + (Int.tmod v0_n 10)))).toNat] : List UInt8)).length ≤ 140737488355328) then (some (y2 ++ ([UInt8.ofNat (IntKind.u8.wrap (IntKind.i64.wrap (48 + (Int.tmod v0_n 10)))).toNat] : List UInt8))) else none)))

def ref02_Same_L0 (n : Nat)  (v0_a : (List S_api_Node)) (v1_b : (List S_api_Node)) : Nat → Bool → Int → Option (LR Unit Bool)
  | 0, _, _ => none
  | k4+1, s2, s3 => (bif decide (s3 < (((v0_a).length : Nat) : Int)) then ((idx v0_a s3).bind fun x13 => ((idx v1_b s3).bind fun x14 => (bif (x13.f_Op != x14.f_Op) then (some (.ret false)) else ((idx v0_a s3).bind fun x16 => ((idx v1_b s3).bind fun x17 => (bif (x16.f_N != x17.f_N) then (some (.ret false)) else ((idx v0_a s3).bind fun x19 => ((idx v1_b s3).bind fun x20 => (bif (x19.f_Name == x20.f_Name) then ((idx v0_a s3).bind fun x22 => ((idx v1_b s3).bind fun x23 => (bif (x22.f_In == x23.f_In) then (bif s2 then ((idx v0_a s3).bind fun x26 => ((idx v1_b s3).bind fun x27 => (bif (x26.f_At != x27.f_At) then (some (.ret false)) else (ref02_Same_L0 n v0_a v1_b k4 true (IntKind.i64.wrap (s3 + 1)))))) else (ref02_Same_L0 n v0_a v1_b k4 false (IntKind.i64.wrap (s3 + 1)))) else (some (.ret false))))) else (some (.ret false))))))))))) else (some (.out ())))
def m_ref02_Same : Nat → (List S_api_Node) → (List S_api_Node) → Bool → Option Bool
  | 0, _, _, _ => none
  | n+1, v0_a, v1_b, v2_places => (bif ((((v0_a).length : Nat) : Int) != (((v1_b).length : Nat) : Int)) then (some false) else ((ref02_Same_L0 n v0_a v1_b n v2_places 0).bind fun o11 => match o11 with | .out _ => (some true) | .ret v => some v))

def ref02_Light_L0 (n : Nat)  (v0_l : (List S_api_Node)) : Nat → Int → Option (LR Unit Bool)
  | 0, _ => none
  | k3+1, s2 => (bif decide (s2 < (((v0_l).length : Nat) : Int)) then ((idx v0_l s2).bind fun x12 => (bif decide (100 < (((x12.f_Name).length : Nat) : Int)) then (some (.ret false)) else ((idx v0_l s2).bind fun x14 => (bif decide (100 < (((x14.f_In).length : Nat) : Int)) then (some (.ret false)) else (ref02_Light_L0 n v0_l k3 (IntKind.i64.wrap (s2 + 1))))))) else (some (.out ())))
def m_ref02_Light : Nat → (List S_api_Node) → Option Bool
  | 0, _ => none
  | n+1, v0_l => (bif decide (250 < (((v0_l).length : Nat) : Int)) then (some false) else ((ref02_Light_L0 n v0_l n 0).bind fun o10 => match o10 with | .out _ => (some true) | .ret v => some v))

def m_ref02_kids : Nat → Int → Option Int
  | 0, _ => none
  | n+1, v0_op => (bif decide (1 ≤ v0_op) then (bif decide (v0_op ≤ 4) then (some 0) else (bif (v0_op == 5) then (some 1) else (bif decide (6 ≤ v0_op) then (bif decide (v0_op ≤ 14) then (some 2) else (some (-1))) else (some (-1))))) else (bif (v0_op == 5) then (some 1) else (bif decide (6 ≤ v0_op) then (bif decide (v0_op ≤ 14) then (some 2) else (some (-1))) else (some (-1)))))

def ref02_End_L0 (n : Nat)  (v0_l : (List S_api_Node)) : Nat → Int → Int → Option (LR Unit Int)
  | 0, _, _ => none
  | k4+1, s2, s3 => (bif decide (s3 < (((v0_l).length : Nat) : Int)) then ((idx v0_l s3).bind fun x13 => ((m_ref02_kids n x13.f_Op).bind fun y14 => (bif decide (y14 < 0) then (some (.ret (-1))) else (bif ((IntKind.i64.wrap ((IntKind.i64.wrap (s2 - 1)) + y14)) == 0) then (some (.ret (IntKind.i64.wrap (s3 + 1)))) else (ref02_End_L0 n v0_l k4 (IntKind.i64.wrap ((IntKind.i64.wrap (s2 - 1)) + y14)) (IntKind.i64.wrap (s3 + 1))))))) else (some (.out ())))
def m_ref02_End : Nat → (List S_api_Node) → Int → Option Int
  | 0, _, _ => none
  | n+1, v0_l, v1_i => (bif decide (v1_i < 0) then (some (-1)) else ((ref02_End_L0 n v0_l n 1 v1_i).bind fun o11 => match o11 with | .out _ => (some (-1)) | .ret v => some v))

def ref02_deep_L0 (n : Nat) (rec_ref02_deep : (List S_api_Node) → Int → Option Int) (v0_l : (List S_api_Node)) (v1_i : Int) : Nat → Int → Int → Int → Option (LR Int Int)
  | 0, _, _, _ => none
  | k4+1, s1, s2, s3 => ((idx v0_l v1_i).bind fun x12 => ((m_ref02_kids n x12.f_Op).bind fun y13 => (bif decide (s3 < y13) then ((rec_ref02_deep v0_l s2).bind fun y16 => ((m_ref02_End n v0_l s2).bind fun y18 => (ref02_deep_L0 n rec_ref02_deep v0_l v1_i k4 (if s1 < (IntKind.i64.wrap (1 + y16)) then (IntKind.i64.wrap (1 + y16)) else s1) y18 (IntKind.i64.wrap (s3 + 1))))) else (some (.out s1)))))
def m_ref02_deep : Nat → (List S_api_Node) → Int → Option Int
  | 0, _, _ => none
  | n+1, v0_l, v1_i => ((ref02_deep_L0 n (m_ref02_deep n) v0_l v1_i n 0 (IntKind.i64.wrap (v1_i + 1)) 0).bind fun o11 => match o11 with | .out x21 => (some x21) | .ret v => some v)

def m_ref02_node : Nat → S_api_Node → Option Bool
  | 0, _ => none
  | n+1, v0_x => (bif decide (v0_x.f_At < 0) then (some false) else (bif (v0_x.f_Op == 1) then (bif decide (0 ≤ v0_x.f_N) then (bif decide (v0_x.f_N ≤ 9999) then (bif (v0_x.f_Name == ([] : List UInt8)) then (some (v0_x.f_In == ([] : List UInt8))) else (some false)) else (some false)) else (some false)) else (bif (v0_x.f_Op == 2) then (bif (v0_x.f_N == 0) then ((m_ref01_Name n v0_x.f_Name).bind fun y8 => (bif y8 then (some (v0_x.f_In == ([] : List UInt8))) else (some false))) else (some false)) else (bif (v0_x.f_Op == 3) then (bif (v0_x.f_N == 0) then ((m_ref01_Name n v0_x.f_Name).bind fun y13 => (bif y13 then (some (v0_x.f_In == ([] : List UInt8))) else (some false))) else (some false)) else (bif (v0_x.f_Op == 4) then (bif (v0_x.f_N == 0) then ((m_ref01_Name n v0_x.f_Name).bind fun y18 => (bif y18 then ((m_ref01_Name n v0_x.f_In).bind fun y21 => (some y21)) else (some false))) else (some false)) else (bif (v0_x.f_N == 0) then (bif (v0_x.f_Name == ([] : List UInt8)) then (some (v0_x.f_In == ([] : List UInt8))) else (some false)) else (some false)))))))

def ref02_Right_L0 (n : Nat)  (v0_l : (List S_api_Node)) : Nat → Int → Option (LR Unit Bool)
  | 0, _ => none
  | k7+1, s6 => (bif decide (s6 < (((v0_l).length : Nat) : Int)) then ((idx v0_l s6).bind fun x16 => ((m_ref02_node n x16).bind fun y17 => (bif y17 then (ref02_Right_L0 n v0_l k7 (IntKind.i64.wrap (s6 + 1))) else (some (.ret false))))) else (some (.out ())))
def m_ref02_Right : Nat → (List S_api_Node) → Option Bool
  | 0, _ => none
  | n+1, v0_l => (bif decide (200 < (((v0_l).length : Nat) : Int)) then (some false) else (bif ((((v0_l).length : Nat) : Int) == 0) then (some false) else ((m_ref02_End n v0_l 0).bind fun y3 => (bif (y3 != (((v0_l).length : Nat) : Int)) then (some false) else ((ref02_Right_L0 n v0_l n 0).bind fun o14 => match o14 with | .out _ => ((m_ref02_deep n v0_l 0).bind fun y21 => (some (decide (y21 ≤ 30)))) | .ret v => some v)))))

def m_ref02_Depth : Nat → (List S_api_Node) → Option Int
  | 0, _ => none
  | n+1, v0_l => ((m_ref02_Right n v0_l).bind fun y1 => (bif y1 then ((m_ref02_deep n v0_l 0).bind fun y4 => (some y4)) else (some (-1))))

def ref02_Names_L0 (n : Nat)  (v0_l : (List S_api_Node)) : Nat → Int → (List S_api_Node) → Option (LR (List S_api_Node) (List S_api_Node))
  | 0, _, _ => none
  | k3+1, s1, s2 => (bif decide (s1 < (((v0_l).length : Nat) : Int)) then ((idx v0_l s1).bind fun x12 => (bif (x12.f_Op == 2) then ((idx v0_l s1).bind fun x14 => (bif decide (((s2).length + 1) * 57 ≤ 140737488355328) then (ref02_Names_L0 n v0_l k3 (IntKind.i64.wrap (s1 + 1)) (s2 ++ ([x14] : List S_api_Node))) else none)) else ((idx v0_l s1).bind fun x18 => (bif (x18.f_Op == 3) then ((idx v0_l s1).bind fun x20 => (bif decide (((s2).length + 1) * 57 ≤ 140737488355328) then (ref02_Names_L0 n v0_l k3 (IntKind.i64.wrap (s1 + 1)) (s2 ++ ([x20] : List S_api_Node))) else none)) else ((idx v0_l s1).bind fun x24 => (bif (x24.f_Op == 4) then ((idx v0_l s1).bind fun x26 => (bif decide (((s2).length + 1) * 57 ≤ 140737488355328) then (ref02_Names_L0 n v0_l k3 (IntKind.i64.wrap (s1 + 1)) (s2 ++ ([x26] : List S_api_Node))) else none)) else (ref02_Names_L0 n v0_l k3 (IntKind.i64.wrap (s1 + 1)) s2))))))) else (some (.out s2)))
def m_ref02_Names : Nat → (List S_api_Node) → Option (List S_api_Node)
  | 0, _ => none
  | n+1, v0_l => ((ref02_Names_L0 n v0_l n 0 ([] : List S_api_Node)).bind fun o10 => match o10 with | .out x31 => (some x31) | .ret v => some v)

def m_ref02_sign : Nat → Int → Option (List UInt8)
  | 0, _ => none
  | n+1, v0_op => ((idx ([([33] : List UInt8), ([43] : List UInt8), ([45] : List UInt8), ([42] : List UInt8), ([61, 61] : List UInt8), ([33, 61] : List UInt8), ([60] : List UInt8), ([60, 61] : List UInt8), ([38, 38] : List UInt8), ([124, 124] : List UInt8)] : List (List UInt8)) (IntKind.i64.wrap (v0_op - 5))).bind fun x1 => (some x1))

mutual
def m_ref02_operand : Nat → (List S_api_Node) → Int → Option (List UInt8)
  | 0, _, _ => none
  | n+1, v0_l, v1_i => (((m_ref02_show n) v0_l v1_i).bind fun y1 => ((idx v0_l v1_i).bind fun x3 => ((m_ref02_kids n x3.f_Op).bind fun y4 => (bif (y4 == 2) then (bif decide ((([40] : List UInt8)).length + (y1).length ≤ 140737488355328) then (bif decide (((([40] : List UInt8) ++ y1)).length + (([41] : List UInt8)).length ≤ 140737488355328) then (some ((([40] : List UInt8) ++ y1) ++ ([41] : List UInt8))) else none) else none) else (some y1)))))
def m_ref02_show : Nat → (List S_api_Node) → Int → Option (List UInt8)
  | 0, _, _ => none
  | n+1, v0_l, v1_i => ((idx v0_l v1_i).bind fun x1 => (bif (x1.f_Op == 1) then ((m_ref01_Digits n x1.f_N).bind fun y3 => (some y3)) else (bif (x1.f_Op == 2) then (some x1.f_Name) else (bif (x1.f_Op == 3) then (some x1.f_Name) else (bif (x1.f_Op == 4) then (bif decide ((x1.f_In).length + (([46] : List UInt8)).length ≤ 140737488355328) then (bif decide (((x1.f_In ++ ([46] : List UInt8))).length + (x1.f_Name).length ≤ 140737488355328) then (some ((x1.f_In ++ ([46] : List UInt8)) ++ x1.f_Name)) else none) else none) else (bif (x1.f_Op == 5) then (((m_ref02_operand n) v0_l (IntKind.i64.wrap (v1_i + 1))).bind fun y11 => (bif decide ((([33] : List UInt8)).length + (y11).length ≤ 140737488355328) then (some (([33] : List UInt8) ++ y11)) else none)) else (((m_ref02_operand n) v0_l (IntKind.i64.wrap (v1_i + 1))).bind fun y14 => (bif decide ((y14).length + (([32] : List UInt8)).length ≤ 140737488355328) then ((m_ref02_sign n x1.f_Op).bind fun y17 => (bif decide (((y14 ++ ([32] : List UInt8))).length + (y17).length ≤ 140737488355328) then (bif decide ((((y14 ++ ([32] : List UInt8)) ++ y17)).length + (([32] : List UInt8)).length ≤ 140737488355328) then ((m_ref02_End n v0_l (IntKind.i64.wrap (v1_i + 1))).bind fun y21 => (((m_ref02_operand n) v0_l y21).bind fun y23 => (bif decide (((((y14 ++ ([32] : List UInt8)) ++ y17) ++ ([32] : List UInt8))).length + (y23).length ≤ 140737488355328) then (some ((((y14 ++ ([32] : List UInt8)) ++ y17) ++ ([32] : List UInt8)) ++ y23)) else none))) else none) else none)) else none))))))))
end

def m_ref02_Show : Nat → (List S_api_Node) → Option (List UInt8)
  | 0, _ => none
  | n+1, v0_l => ((m_ref02_Right n v0_l).bind fun y1 => (bif y1 then ((m_ref02_show n v0_l 0).bind fun y4 => (some y4)) else (some ([] : List UInt8))))

def m_expr_kids : Nat → Int → Option Int
  | 0, _ => none
  | n+1, v0_op => (bif decide (1 ≤ v0_op) then (bif decide (v0_op ≤ 4) then (some 0) else (bif (v0_op == 5) then (some 1) else (bif decide (6 ≤ v0_op) then (bif decide (v0_op ≤ 14) then (some 2) else (some (-1))) else (some (-1))))) else (bif (v0_op == 5) then (some 1) else (bif decide (6 ≤ v0_op) then (bif decide (v0_op ≤ 14) then (some 2) else (some (-1))) else (some (-1)))))

def expr_End_L0 (n : Nat)  (v0_l : (List S_api_Node)) : Nat → Int → Int → Option (LR Unit Int)
  | 0, _, _ => none
  | k4+1, s2, s3 => (bif decide (s2 < (((v0_l).length : Nat) : Int)) then ((idx v0_l s2).bind fun x13 => ((m_expr_kids n x13.f_Op).bind fun y14 => (bif decide (y14 < 0) then (some (.ret (-1))) else (bif ((IntKind.i64.wrap (s3 + (IntKind.i64.wrap (y14 - 1)))) == 0) then (some (.ret (IntKind.i64.wrap (s2 + 1)))) else (expr_End_L0 n v0_l k4 (IntKind.i64.wrap (s2 + 1)) (IntKind.i64.wrap (s3 + (IntKind.i64.wrap (y14 - 1))))))))) else (some (.out ())))
def m_expr_End : Nat → (List S_api_Node) → Int → Option Int
  | 0, _, _ => none
  | n+1, v0_l, v1_i => (bif decide (v1_i < 0) then (some (-1)) else ((expr_End_L0 n v0_l n v1_i 1).bind fun o11 => match o11 with | .out _ => (some (-1)) | .ret v => some v))

def expr_depth_L1 (n : Nat)  : Nat → (List Int) → Option (LR (List Int) Int)
  | 0, _ => none
  | k21+1, s20 => (bif decide (0 < (((s20).length : Nat) : Int)) then ((idx s20 (IntKind.i64.wrap ((((s20).length : Nat) : Int) - 1))).bind fun x30 => ((idx s20 (IntKind.i64.wrap ((((s20).length : Nat) : Int) - 1))).bind fun x31 => ((idx (List.set s20 (IntKind.i64.wrap ((((s20).length : Nat) : Int) - 1)).toNat (IntKind.i64.wrap (x30 - 1))) (IntKind.i64.wrap ((((s20).length : Nat) : Int) - 1))).bind fun x33 => (bif decide (0 < x33) then (some (.out (List.set s20 (IntKind.i64.wrap ((((s20).length : Nat) : Int) - 1)).toNat (IntKind.i64.wrap (x30 - 1))))) else (bif (decide (0 ≤ (IntKind.i64.wrap ((((s20).length : Nat) : Int) - 1))) && decide ((IntKind.i64.wrap ((((s20).length : Nat) : Int) - 1)) ≤ ((((List.set s20 (IntKind.i64.wrap ((((s20).length : Nat) : Int) - 1)).toNat (IntKind.i64.wrap (x30 - 1)))).length : Nat) : Int))) then (expr_depth_L1 n k21 (List.take ((IntKind.i64.wrap ((((s20).length : Nat) : Int) - 1)).toNat) (List.set s20 (IntKind.i64.wrap ((((s20).length : Nat) : Int) - 1)).toNat (IntKind.i64.wrap (x30 - 1))))) else none))))) else (some (.out s20)))
def expr_depth_L0 (n : Nat)  (v0_l : (List S_api_Node)) : Nat → Int → Int → (List Int) → Option (LR (Int × (List Int)) Int)
  | 0, _, _, _ => none
  | k4+1, s1, s2, s3 => (bif decide (s2 < (((v0_l).length : Nat) : Int)) then ((idx v0_l s2).bind fun x13 => ((m_expr_kids n x13.f_Op).bind fun y14 => (bif decide (0 < y14) then (bif decide (((s3).length + 1) * 9 ≤ 140737488355328) then (expr_depth_L0 n v0_l k4 (if s1 < (((s3).length : Nat) : Int) then (((s3).length : Nat) : Int) else s1) (IntKind.i64.wrap (s2 + 1)) (s3 ++ ([y14] : List Int))) else none) else ((expr_depth_L1 n n s3).bind fun o28 => match o28 with | .out x38 => (expr_depth_L0 n v0_l k4 (if s1 < (((s3).length : Nat) : Int) then (((s3).length : Nat) : Int) else s1) (IntKind.i64.wrap (s2 + 1)) x38) | .ret v => some (.ret v))))) else (some (.out (s1, s3))))
def m_expr_depth : Nat → (List S_api_Node) → Option Int
  | 0, _ => none
  | n+1, v0_l => ((expr_depth_L0 n v0_l n 0 0 ([] : List Int)).bind fun o11 => match o11 with | .out (x41, x42) => (some x41) | .ret v => some v)

def m_expr_fits : Nat → S_api_Node → Option Bool
  | 0, _ => none
  | n+1, v0_x => (bif decide (v0_x.f_At < 0) then (some false) else (bif (v0_x.f_Op == 1) then (bif ((v0_x.f_Op == v0_x.f_Op) && ((v0_x.f_N == v0_x.f_N) && ((v0_x.f_Name == ([] : List UInt8)) && ((v0_x.f_In == ([] : List UInt8)) && ((v0_x.f_At == v0_x.f_At) && true))))) then (bif decide (0 ≤ v0_x.f_N) then (some (decide (v0_x.f_N ≤ 9999))) else (some false)) else (some false)) else (bif (v0_x.f_Op == 4) then ((m_scan_Name n v0_x.f_In).bind fun y7 => (bif y7 then (bif ((v0_x.f_Op == v0_x.f_Op) && ((v0_x.f_N == 0) && ((v0_x.f_Name == v0_x.f_Name) && ((v0_x.f_In == v0_x.f_In) && ((v0_x.f_At == v0_x.f_At) && true))))) then ((m_scan_Name n v0_x.f_Name).bind fun y11 => (some y11)) else (some false)) else (some false))) else (bif (v0_x.f_Op == 2) then (bif ((v0_x.f_Op == v0_x.f_Op) && ((v0_x.f_N == 0) && ((v0_x.f_Name == v0_x.f_Name) && ((v0_x.f_In == ([] : List UInt8)) && ((v0_x.f_At == v0_x.f_At) && true))))) then ((m_scan_Name n v0_x.f_Name).bind fun y16 => (some y16)) else (some false)) else (bif (v0_x.f_Op == 3) then (bif ((v0_x.f_Op == v0_x.f_Op) && ((v0_x.f_N == 0) && ((v0_x.f_Name == v0_x.f_Name) && ((v0_x.f_In == ([] : List UInt8)) && ((v0_x.f_At == v0_x.f_At) && true))))) then ((m_scan_Name n v0_x.f_Name).bind fun y21 => (some y21)) else (some false)) else (some ((v0_x.f_Op == v0_x.f_Op) && ((v0_x.f_N == 0) && ((v0_x.f_Name == ([] : List UInt8)) && ((v0_x.f_In == ([] : List UInt8)) && ((v0_x.f_At == v0_x.f_At) && true)))))))))))

def expr_Right_L0 (n : Nat)  (v0_l : (List S_api_Node)) : Nat → Int → Option (LR Unit Bool)
  | 0, _ => none
  | k7+1, s6 => (bif decide (s6 < (((v0_l).length : Nat) : Int)) then ((idx v0_l s6).bind fun x16 => ((m_expr_fits n x16).bind fun y17 => (bif y17 then (expr_Right_L0 n v0_l k7 (IntKind.i64.wrap (s6 + 1))) else (some (.ret false))))) else (some (.out ())))
def m_expr_Right : Nat → (List S_api_Node) → Option Bool
  | 0, _ => none
  | n+1, v0_l => (bif ((((v0_l).length : Nat) : Int) == 0) then (some false) else (bif decide (200 < (((v0_l).length : Nat) : Int)) then (some false) else ((m_expr_End n v0_l 0).bind fun y3 => (bif (y3 != (((v0_l).length : Nat) : Int)) then (some false) else ((expr_Right_L0 n v0_l n 0).bind fun o14 => match o14 with | .out _ => ((m_expr_depth n v0_l).bind fun y21 => (some (decide (y21 ≤ 30)))) | .ret v => some v)))))

def m_expr_Depth : Nat → (List S_api_Node) → Option Int
  | 0, _ => none
  | n+1, v0_l => ((m_expr_Right n v0_l).bind fun y1 => (bif y1 then ((m_expr_depth n v0_l).bind fun y4 => (some y4)) else (some (-1))))

def expr_Names_L0 (n : Nat)  (v0_l : (List S_api_Node)) : Nat → Int → (List S_api_Node) → Option (LR (List S_api_Node) (List S_api_Node))
  | 0, _, _ => none
  | k3+1, s1, s2 => (bif decide (s1 < (((v0_l).length : Nat) : Int)) then ((idx v0_l s1).bind fun x12 => (bif (x12.f_Op == 2) then (bif decide (((s2).length + 1) * 57 ≤ 140737488355328) then (expr_Names_L0 n v0_l k3 (IntKind.i64.wrap (s1 + 1)) (s2 ++ ([x12] : List S_api_Node))) else none) else (bif (x12.f_Op == 3) then (bif decide (((s2).length + 1) * 57 ≤ 140737488355328) then (expr_Names_L0 n v0_l k3 (IntKind.i64.wrap (s1 + 1)) (s2 ++ ([x12] : List S_api_Node))) else none) else (bif (x12.f_Op == 4) then (bif decide (((s2).length + 1) * 57 ≤ 140737488355328) then (expr_Names_L0 n v0_l k3 (IntKind.i64.wrap (s1 + 1)) (s2 ++ ([x12] : List S_api_Node))) else none) else (expr_Names_L0 n v0_l k3 (IntKind.i64.wrap (s1 + 1)) s2))))) else (some (.out s2)))
def m_expr_Names : Nat → (List S_api_Node) → Option (List S_api_Node)
  | 0, _ => none
  | n+1, v0_l => ((expr_Names_L0 n v0_l n 0 ([] : List S_api_Node)).bind fun o10 => match o10 with | .out x26 => (some x26) | .ret v => some v)

def expr_node_L0 (n : Nat)  (v1_rest : (List (List S_api_Node))) : Nat → Int → (List S_api_Node) → Option (LR (List S_api_Node) (List S_api_Node))
  | 0, _, _ => none
  | k3+1, s1, s2 => (bif decide (s1 < (((v1_rest).length : Nat) : Int)) then ((idx v1_rest s1).bind fun x12 => (bif decide (((s2).length + (x12).length) * 57 ≤ 140737488355328) then (expr_node_L0 n v1_rest k3 (IntKind.i64.wrap (s1 + 1)) (s2 ++ x12)) else none)) else (some (.out s2)))
def m_expr_node : Nat → S_api_Node → (List (List S_api_Node)) → Option (List S_api_Node)
  | 0, _, _ => none
  | n+1, v0_x, v1_rest => ((expr_node_L0 n v1_rest n 0 ([v0_x] : List S_api_Node)).bind fun o10 => match o10 with | .out x17 => (some x17) | .ret v => some v)

def m_expr_parser_is : Nat → (List UInt8) → (List S_api_Token) → Int → Int → Int → Int → Option Bool
  | 0, _, _, _, _, _, _ => none
  | n+1, v1_s, p_l, p_i, p_in, p_e, p_at => (bif decide (p_i < (((p_l).length : Nat) : Int)) then ((idx p_l p_i).bind fun x2 => (bif (x2.f_Kind == 3) then ((idx p_l p_i).bind fun x4 => (some (x4.f_Text == v1_s))) else (some false))) else (some false))

def m_expr_parser_fail : Nat → Int → (List S_api_Token) → Int → Int → Int → Int → Option ((List S_api_Node) × Int × Int)
  | 0, _, _, _, _, _, _ => none
  | n+1, v1_e, p_l, p_i, p_in, p_e, p_at => (bif (p_e != 0) then (some (([] : List S_api_Node), p_e, p_at)) else (bif decide (p_i < (((p_l).length : Nat) : Int)) then ((idx p_l p_i).bind fun x3 => (some (([] : List S_api_Node), v1_e, x3.f_At))) else (bif (v1_e == 5) then (bif decide (0 < (((p_l).length : Nat) : Int)) then ((idx p_l (IntKind.i64.wrap ((((p_l).length : Nat) : Int) - 1))).bind fun x6 => ((idx p_l (IntKind.i64.wrap ((((p_l).length : Nat) : Int) - 1))).bind fun x7 => (some (([] : List S_api_Node), 6, IntKind.i64.wrap (x6.f_At + (((x7.f_Text).length : Nat) : Int)))))) else (some (([] : List S_api_Node), 6, p_at))) else (bif decide (0 < (((p_l).length : Nat) : Int)) then ((idx p_l (IntKind.i64.wrap ((((p_l).length : Nat) : Int) - 1))).bind fun x9 => ((idx p_l (IntKind.i64.wrap ((((p_l).length : Nat) : Int) - 1))).bind fun x10 => (some (([] : List S_api_Node), v1_e, IntKind.i64.wrap (x9.f_At + (((x10.f_Text).length : Nat) : Int)))))) else (some (([] : List S_api_Node), v1_e, p_at))))))

def m_expr_parser_name : Nat → (List S_api_Token) → Int → Int → Int → Int → Option ((List UInt8) × Int × Bool × Int)
  | 0, _, _, _, _, _ => none
  | n+1, p_l, p_i, p_in, p_e, p_at => (bif decide ((((p_l).length : Nat) : Int) ≤ p_i) then (some (([] : List UInt8), 0, false, p_i)) else ((idx p_l p_i).bind fun x2 => (bif (x2.f_Kind != 1) then (some (([] : List UInt8), 0, false, p_i)) else ((idx p_l p_i).bind fun x4 => ((m_scan_Name n x4.f_Text).bind fun y5 => (bif y5 then ((idx p_l p_i).bind fun x8 => (some (x8.f_Text, x8.f_At, true, IntKind.i64.wrap (p_i + 1)))) else (some (([] : List UInt8), 0, false, p_i))))))))

def m_expr_sign : Nat → Int → Option (List UInt8)
  | 0, _ => none
  | n+1, v0_op => (bif decide (v0_op = ((14 : Nat) : Int)) then (some ([124, 124] : List UInt8)) else (bif decide (v0_op = ((13 : Nat) : Int)) then (some ([38, 38] : List UInt8)) else (bif decide (v0_op = ((12 : Nat) : Int)) then (some ([60, 61] : List UInt8)) else (bif decide (v0_op = ((11 : Nat) : Int)) then (some ([60] : List UInt8)) else (bif decide (v0_op = ((10 : Nat) : Int)) then (some ([33, 61] : List UInt8)) else (bif decide (v0_op = ((9 : Nat) : Int)) then (some ([61, 61] : List UInt8)) else (bif decide (v0_op = ((8 : Nat) : Int)) then (some ([42] : List UInt8)) else (bif decide (v0_op = ((7 : Nat) : Int)) then (some ([45] : List UInt8)) else (bif decide (v0_op = ((6 : Nat) : Int)) then (some ([43] : List UInt8)) else (bif decide (v0_op = ((5 : Nat) : Int)) then (some ([33] : List UInt8)) else (bif decide (v0_op = ((4 : Nat) : Int)) then (some ([] : List UInt8)) else (bif decide (v0_op = ((3 : Nat) : Int)) then (some ([] : List UInt8)) else (bif decide (v0_op = ((2 : Nat) : Int)) then (some ([] : List UInt8)) else (bif decide (v0_op = ((1 : Nat) : Int)) then (some ([] : List UInt8)) else (bif decide (v0_op = ((0 : Nat) : Int)) then (some ([] : List UInt8)) else none)))))))))))))))

def expr_parser_row_L1 (n : Nat)  (v3_ops : (List Int)) (p_l : (List S_api_Token)) (s5 : Int) (s6 : Int) (s7 : Int) (s8 : Int) : Nat → Int → Int → Option (LR Int ((List S_api_Node) × Int × Int × Int × Int))
  | 0, _, _ => none
  | k20+1, s18, s19 => (bif decide (s19 < (((v3_ops).length : Nat) : Int)) then ((idx v3_ops s19).bind fun x29 => ((m_expr_sign n x29).bind fun y30 => ((m_expr_parser_is n y30 p_l s5 s6 s7 s8).bind fun y32 => (bif y32 then (expr_parser_row_L1 n v3_ops p_l s5 s6 s7 s8 k20 x29 (IntKind.i64.wrap (s19 + 1))) else (expr_parser_row_L1 n v3_ops p_l s5 s6 s7 s8 k20 s18 (IntKind.i64.wrap (s19 + 1))))))) else (some (.out s18)))
def expr_parser_row_L0 (n : Nat) (rec_expr_parser_both : (List S_api_Token) → Int → Int → Int → Int → Option ((List S_api_Node) × Int × Int × Int × Int)) (v3_ops : (List Int)) (p_l : (List S_api_Token)) : Nat → Bool → (List S_api_Node) → Int → Int → Int → Int → Option (LR ((List S_api_Node) × Int × Int × Int × Int) ((List S_api_Node) × Int × Int × Int × Int))
  | 0, _, _, _, _, _, _ => none
  | k9+1, s3, s4, s5, s6, s7, s8 => (bif (s7 == 0) then ((expr_parser_row_L1 n v3_ops p_l s5 s6 s7 s8 n 0 0).bind fun o27 => match o27 with | .out x36 => (bif (x36 == 0) then (some (.out (s4, s5, s6, s7, s8))) else ((idx p_l s5).bind fun x38 => ((rec_expr_parser_both p_l (IntKind.i64.wrap (s5 + 1)) s6 s7 s8).bind fun y39 => ((m_expr_node n (⟨x36, 0, ([] : List UInt8), ([] : List UInt8), x38.f_At⟩ : S_api_Node) ([s4, (y39).1] : List (List S_api_Node))).bind fun y41 => (bif s3 then (some (.out (y41, (y39).2.1, (y39).2.2.1, (y39).2.2.2.1, (y39).2.2.2.2))) else (expr_parser_row_L0 n rec_expr_parser_both v3_ops p_l k9 false y41 ((y39).2.1) ((y39).2.2.1) ((y39).2.2.2.1) ((y39).2.2.2.2))))))) | .ret v => some (.ret v)) else (some (.out (s4, s5, s6, s7, s8))))
def expr_parser_row_1_L1 (n : Nat)  (v3_ops : (List Int)) (p_l : (List S_api_Token)) (s5 : Int) (s6 : Int) (s7 : Int) (s8 : Int) : Nat → Int → Int → Option (LR Int ((List S_api_Node) × Int × Int × Int × Int))
  | 0, _, _ => none
  | k20+1, s18, s19 => (bif decide (s19 < (((v3_ops).length : Nat) : Int)) then ((idx v3_ops s19).bind fun x29 => ((m_expr_sign n x29).bind fun y30 => ((m_expr_parser_is n y30 p_l s5 s6 s7 s8).bind fun y32 => (bif y32 then (expr_parser_row_1_L1 n v3_ops p_l s5 s6 s7 s8 k20 x29 (IntKind.i64.wrap (s19 + 1))) else (expr_parser_row_1_L1 n v3_ops p_l s5 s6 s7 s8 k20 s18 (IntKind.i64.wrap (s19 + 1))))))) else (some (.out s18)))
def expr_parser_row_1_L0 (n : Nat) (rec_expr_parser_compared : (List S_api_Token) → Int → Int → Int → Int → Option ((List S_api_Node) × Int × Int × Int × Int)) (v3_ops : (List Int)) (p_l : (List S_api_Token)) : Nat → Bool → (List S_api_Node) → Int → Int → Int → Int → Option (LR ((List S_api_Node) × Int × Int × Int × Int) ((List S_api_Node) × Int × Int × Int × Int))
  | 0, _, _, _, _, _, _ => none
  | k9+1, s3, s4, s5, s6, s7, s8 => (bif (s7 == 0) then ((expr_parser_row_1_L1 n v3_ops p_l s5 s6 s7 s8 n 0 0).bind fun o27 => match o27 with | .out x36 => (bif (x36 == 0) then (some (.out (s4, s5, s6, s7, s8))) else ((idx p_l s5).bind fun x38 => ((rec_expr_parser_compared p_l (IntKind.i64.wrap (s5 + 1)) s6 s7 s8).bind fun y39 => ((m_expr_node n (⟨x36, 0, ([] : List UInt8), ([] : List UInt8), x38.f_At⟩ : S_api_Node) ([s4, (y39).1] : List (List S_api_Node))).bind fun y41 => (bif s3 then (some (.out (y41, (y39).2.1, (y39).2.2.1, (y39).2.2.2.1, (y39).2.2.2.2))) else (expr_parser_row_1_L0 n rec_expr_parser_compared v3_ops p_l k9 false y41 ((y39).2.1) ((y39).2.2.1) ((y39).2.2.2.1) ((y39).2.2.2.2))))))) | .ret v => some (.ret v)) else (some (.out (s4, s5, s6, s7, s8))))
def expr_parser_row_2_L1 (n : Nat)  (v3_ops : (List Int)) (p_l : (List S_api_Token)) (s5 : Int) (s6 : Int) (s7 : Int) (s8 : Int) : Nat → Int → Int → Option (LR Int ((List S_api_Node) × Int × Int × Int × Int))
  | 0, _, _ => none
  | k20+1, s18, s19 => (bif decide (s19 < (((v3_ops).length : Nat) : Int)) then ((idx v3_ops s19).bind fun x29 => ((m_expr_sign n x29).bind fun y30 => ((m_expr_parser_is n y30 p_l s5 s6 s7 s8).bind fun y32 => (bif y32 then (expr_parser_row_2_L1 n v3_ops p_l s5 s6 s7 s8 k20 x29 (IntKind.i64.wrap (s19 + 1))) else (expr_parser_row_2_L1 n v3_ops p_l s5 s6 s7 s8 k20 s18 (IntKind.i64.wrap (s19 + 1))))))) else (some (.out s18)))
def expr_parser_row_2_L0 (n : Nat) (rec_expr_parser_sum : (List S_api_Token) → Int → Int → Int → Int → Option ((List S_api_Node) × Int × Int × Int × Int)) (v3_ops : (List Int)) (p_l : (List S_api_Token)) : Nat → Bool → (List S_api_Node) → Int → Int → Int → Int → Option (LR ((List S_api_Node) × Int × Int × Int × Int) ((List S_api_Node) × Int × Int × Int × Int))
  | 0, _, _, _, _, _, _ => none
  | k9+1, s3, s4, s5, s6, s7, s8 => (bif (s7 == 0) then ((expr_parser_row_2_L1 n v3_ops p_l s5 s6 s7 s8 n 0 0).bind fun o27 => match o27 with | .out x36 => (bif (x36 == 0) then (some (.out (s4, s5, s6, s7, s8))) else ((idx p_l s5).bind fun x38 => ((rec_expr_parser_sum p_l (IntKind.i64.wrap (s5 + 1)) s6 s7 s8).bind fun y39 => ((m_expr_node n (⟨x36, 0, ([] : List UInt8), ([] : List UInt8), x38.f_At⟩ : S_api_Node) ([s4, (y39).1] : List (List S_api_Node))).bind fun y41 => (bif s3 then (some (.out (y41, (y39).2.1, (y39).2.2.1, (y39).2.2.2.1, (y39).2.2.2.2))) else (expr_parser_row_2_L0 n rec_expr_parser_sum v3_ops p_l k9 false y41 ((y39).2.1) ((y39).2.2.1) ((y39).2.2.2.1) ((y39).2.2.2.2))))))) | .ret v => some (.ret v)) else (some (.out (s4, s5, s6, s7, s8))))
def expr_parser_row_3_L1 (n : Nat)  (v3_ops : (List Int)) (p_l : (List S_api_Token)) (s5 : Int) (s6 : Int) (s7 : Int) (s8 : Int) : Nat → Int → Int → Option (LR Int ((List S_api_Node) × Int × Int × Int × Int))
  | 0, _, _ => none
  | k20+1, s18, s19 => (bif decide (s19 < (((v3_ops).length : Nat) : Int)) then ((idx v3_ops s19).bind fun x29 => ((m_expr_sign n x29).bind fun y30 => ((m_expr_parser_is n y30 p_l s5 s6 s7 s8).bind fun y32 => (bif y32 then (expr_parser_row_3_L1 n v3_ops p_l s5 s6 s7 s8 k20 x29 (IntKind.i64.wrap (s19 + 1))) else (expr_parser_row_3_L1 n v3_ops p_l s5 s6 s7 s8 k20 s18 (IntKind.i64.wrap (s19 + 1))))))) else (some (.out s18)))
def expr_parser_row_3_L0 (n : Nat) (rec_expr_parser_product : (List S_api_Token) → Int → Int → Int → Int → Option ((List S_api_Node) × Int × Int × Int × Int)) (v3_ops : (List Int)) (p_l : (List S_api_Token)) : Nat → Bool → (List S_api_Node) → Int → Int → Int → Int → Option (LR ((List S_api_Node) × Int × Int × Int × Int) ((List S_api_Node) × Int × Int × Int × Int))
  | 0, _, _, _, _, _, _ => none
  | k9+1, s3, s4, s5, s6, s7, s8 => (bif (s7 == 0) then ((expr_parser_row_3_L1 n v3_ops p_l s5 s6 s7 s8 n 0 0).bind fun o27 => match o27 with | .out x36 => (bif (x36 == 0) then (some (.out (s4, s5, s6, s7, s8))) else ((idx p_l s5).bind fun x38 => ((rec_expr_parser_product p_l (IntKind.i64.wrap (s5 + 1)) s6 s7 s8).bind fun y39 => ((m_expr_node n (⟨x36, 0, ([] : List UInt8), ([] : List UInt8), x38.f_At⟩ : S_api_Node) ([s4, (y39).1] : List (List S_api_Node))).bind fun y41 => (bif s3 then (some (.out (y41, (y39).2.1, (y39).2.2.1, (y39).2.2.2.1, (y39).2.2.2.2))) else (expr_parser_row_3_L0 n rec_expr_parser_product v3_ops p_l k9 false y41 ((y39).2.1) ((y39).2.2.1) ((y39).2.2.2.1) ((y39).2.2.2.2))))))) | .ret v => some (.ret v)) else (some (.out (s4, s5, s6, s7, s8))))
def expr_parser_row_4_L1 (n : Nat)  (v3_ops : (List Int)) (p_l : (List S_api_Token)) (s5 : Int) (s6 : Int) (s7 : Int) (s8 : Int) : Nat → Int → Int → Option (LR Int ((List S_api_Node) × Int × Int × Int × Int))
  | 0, _, _ => none
  | k20+1, s18, s19 => (bif decide (s19 < (((v3_ops).length : Nat) : Int)) then ((idx v3_ops s19).bind fun x29 => ((m_expr_sign n x29).bind fun y30 => ((m_expr_parser_is n y30 p_l s5 s6 s7 s8).bind fun y32 => (bif y32 then (expr_parser_row_4_L1 n v3_ops p_l s5 s6 s7 s8 k20 x29 (IntKind.i64.wrap (s19 + 1))) else (expr_parser_row_4_L1 n v3_ops p_l s5 s6 s7 s8 k20 s18 (IntKind.i64.wrap (s19 + 1))))))) else (some (.out s18)))
def expr_parser_row_4_L0 (n : Nat) (rec_expr_parser_single : (List S_api_Token) → Int → Int → Int → Int → Option ((List S_api_Node) × Int × Int × Int × Int)) (v3_ops : (List Int)) (p_l : (List S_api_Token)) : Nat → Bool → (List S_api_Node) → Int → Int → Int → Int → Option (LR ((List S_api_Node) × Int × Int × Int × Int) ((List S_api_Node) × Int × Int × Int × Int))
  | 0, _, _, _, _, _, _ => none
  | k9+1, s3, s4, s5, s6, s7, s8 => (bif (s7 == 0) then ((expr_parser_row_4_L1 n v3_ops p_l s5 s6 s7 s8 n 0 0).bind fun o27 => match o27 with | .out x36 => (bif (x36 == 0) then (some (.out (s4, s5, s6, s7, s8))) else ((idx p_l s5).bind fun x38 => ((rec_expr_parser_single p_l (IntKind.i64.wrap (s5 + 1)) s6 s7 s8).bind fun y39 => ((m_expr_node n (⟨x36, 0, ([] : List UInt8), ([] : List UInt8), x38.f_At⟩ : S_api_Node) ([s4, (y39).1] : List (List S_api_Node))).bind fun y41 => (bif s3 then (some (.out (y41, (y39).2.1, (y39).2.2.1, (y39).2.2.2.1, (y39).2.2.2.2))) else (expr_parser_row_4_L0 n rec_expr_parser_single v3_ops p_l k9 false y41 ((y39).2.1) ((y39).2.2.1) ((y39).2.2.2.1) ((y39).2.2.2.2))))))) | .ret v => some (.ret v)) else (some (.out (s4, s5, s6, s7, s8))))
mutual
def m_expr_parser_any : Nat → (List S_api_Token) → Int → Int → Int → Int → Option ((List S_api_Node) × Int × Int × Int × Int)
  | 0, _, _, _, _, _ => none
  | n+1, p_l, p_i, p_in, p_e, p_at => (((m_expr_parser_row n) false ([14] : List Int) p_l p_i p_in p_e p_at).bind fun y1 => (some ((y1).1, (y1).2.1, (y1).2.2.1, (y1).2.2.2.1, (y1).2.2.2.2)))
def m_expr_parser_both : Nat → (List S_api_Token) → Int → Int → Int → Int → Option ((List S_api_Node) × Int × Int × Int × Int)
  | 0, _, _, _, _, _ => none
  | n+1, p_l, p_i, p_in, p_e, p_at => (((m_expr_parser_row_1 n) false ([13] : List Int) p_l p_i p_in p_e p_at).bind fun y1 => (some ((y1).1, (y1).2.1, (y1).2.2.1, (y1).2.2.2.1, (y1).2.2.2.2)))
def m_expr_parser_compared : Nat → (List S_api_Token) → Int → Int → Int → Int → Option ((List S_api_Node) × Int × Int × Int × Int)
  | 0, _, _, _, _, _ => none
  | n+1, p_l, p_i, p_in, p_e, p_at => (((m_expr_parser_row_2 n) true ([9, 10, 11, 12] : List Int) p_l p_i p_in p_e p_at).bind fun y1 => (some ((y1).1, (y1).2.1, (y1).2.2.1, (y1).2.2.2.1, (y1).2.2.2.2)))
def m_expr_parser_inner : Nat → (List S_api_Token) → Int → Int → Int → Int → Option ((List S_api_Node) × Int × Int × Int × Int)
  | 0, _, _, _, _, _ => none
  | n+1, p_l, p_i, p_in, p_e, p_at => (bif decide (30 ≤ p_in) then ((m_expr_parser_fail n 7 p_l p_i p_in p_e p_at).bind fun y2 => (some ((y2).1, p_i, p_in, (y2).2.1, (y2).2.2))) else (((m_expr_parser_single n) p_l (IntKind.i64.wrap (p_i + 1)) (IntKind.i64.wrap (p_in + 1)) p_e p_at).bind fun y4 => (some ((y4).1, (y4).2.1, IntKind.i64.wrap (((y4).2.2.1) - 1), (y4).2.2.2.1, (y4).2.2.2.2))))
def m_expr_parser_inner_1 : Nat → (List S_api_Token) → Int → Int → Int → Int → Option ((List S_api_Node) × Int × Int × Int × Int)
  | 0, _, _, _, _, _ => none
  | n+1, p_l, p_i, p_in, p_e, p_at => (bif decide (30 ≤ p_in) then ((m_expr_parser_fail n 7 p_l p_i p_in p_e p_at).bind fun y2 => (some ((y2).1, p_i, p_in, (y2).2.1, (y2).2.2))) else (((m_expr_parser_any n) p_l (IntKind.i64.wrap (p_i + 1)) (IntKind.i64.wrap (p_in + 1)) p_e p_at).bind fun y4 => (some ((y4).1, (y4).2.1, IntKind.i64.wrap (((y4).2.2.1) - 1), (y4).2.2.2.1, (y4).2.2.2.2))))
def m_expr_parser_product : Nat → (List S_api_Token) → Int → Int → Int → Int → Option ((List S_api_Node) × Int × Int × Int × Int)
  | 0, _, _, _, _, _ => none
  | n+1, p_l, p_i, p_in, p_e, p_at => (((m_expr_parser_row_4 n) false ([8] : List Int) p_l p_i p_in p_e p_at).bind fun y1 => (some ((y1).1, (y1).2.1, (y1).2.2.1, (y1).2.2.2.1, (y1).2.2.2.2)))
def m_expr_parser_row : Nat → Bool → (List Int) → (List S_api_Token) → Int → Int → Int → Int → Option ((List S_api_Node) × Int × Int × Int × Int)
  | 0, _, _, _, _, _, _, _ => none
  | n+1, v2_once, v3_ops, p_l, p_i, p_in, p_e, p_at => (((m_expr_parser_both n) p_l p_i p_in p_e p_at).bind fun y1 => ((expr_parser_row_L0 n (m_expr_parser_both n) v3_ops p_l n v2_once ((y1).1) ((y1).2.1) ((y1).2.2.1) ((y1).2.2.2.1) ((y1).2.2.2.2)).bind fun o16 => match o16 with | .out (x46, x47, x48, x49, x50) => (some (x46, x47, x48, x49, x50)) | .ret v => some v))
def m_expr_parser_row_1 : Nat → Bool → (List Int) → (List S_api_Token) → Int → Int → Int → Int → Option ((List S_api_Node) × Int × Int × Int × Int)
  | 0, _, _, _, _, _, _, _ => none
  | n+1, v2_once, v3_ops, p_l, p_i, p_in, p_e, p_at => (((m_expr_parser_compared n) p_l p_i p_in p_e p_at).bind fun y1 => ((expr_parser_row_1_L0 n (m_expr_parser_compared n) v3_ops p_l n v2_once ((y1).1) ((y1).2.1) ((y1).2.2.1) ((y1).2.2.2.1) ((y1).2.2.2.2)).bind fun o16 => match o16 with | .out (x46, x47, x48, x49, x50) => (some (x46, x47, x48, x49, x50)) | .ret v => some v))
def m_expr_parser_row_2 : Nat → Bool → (List Int) → (List S_api_Token) → Int → Int → Int → Int → Option ((List S_api_Node) × Int × Int × Int × Int)
  | 0, _, _, _, _, _, _, _ => none
  | n+1, v2_once, v3_ops, p_l, p_i, p_in, p_e, p_at => (((m_expr_parser_sum n) p_l p_i p_in p_e p_at).bind fun y1 => ((expr_parser_row_2_L0 n (m_expr_parser_sum n) v3_ops p_l n v2_once ((y1).1) ((y1).2.1) ((y1).2.2.1) ((y1).2.2.2.1) ((y1).2.2.2.2)).bind fun o16 => match o16 with | .out (x46, x47, x48, x49, x50) => (some (x46, x47, x48, x49, x50)) | .ret v => some v))
def m_expr_parser_row_3 : Nat → Bool → (List Int) → (List S_api_Token) → Int → Int → Int → Int → Option ((List S_api_Node) × Int × Int × Int × Int)
  | 0, _, _, _, _, _, _, _ => none
  | n+1, v2_once, v3_ops, p_l, p_i, p_in, p_e, p_at => (((m_expr_parser_product n) p_l p_i p_in p_e p_at).bind fun y1 => ((expr_parser_row_3_L0 n (m_expr_parser_product n) v3_ops p_l n v2_once ((y1).1) ((y1).2.1) ((y1).2.2.1) ((y1).2.2.2.1) ((y1).2.2.2.2)).bind fun o16 => match o16 with | .out (x46, x47, x48, x49, x50) => (some (x46, x47, x48, x49, x50)) | .ret v => some v))
def m_expr_parser_row_4 : Nat → Bool → (List Int) → (List S_api_Token) → Int → Int → Int → Int → Option ((List S_api_Node) × Int × Int × Int × Int)
  | 0, _, _, _, _, _, _, _ => none
  | n+1, v2_once, v3_ops, p_l, p_i, p_in, p_e, p_at => (((m_expr_parser_single n) p_l p_i p_in p_e p_at).bind fun y1 => ((expr_parser_row_4_L0 n (m_expr_parser_single n) v3_ops p_l n v2_once ((y1).1) ((y1).2.1) ((y1).2.2.1) ((y1).2.2.2.1) ((y1).2.2.2.2)).bind fun o16 => match o16 with | .out (x46, x47, x48, x49, x50) => (some (x46, x47, x48, x49, x50)) | .ret v => some v))
def m_expr_parser_single : Nat → (List S_api_Token) → Int → Int → Int → Int → Option ((List S_api_Node) × Int × Int × Int × Int)
  | 0, _, _, _, _, _ => none
  | n+1, p_l, p_i, p_in, p_e, p_at => (bif (p_e != 0) then (some (([] : List S_api_Node), p_i, p_in, p_e, p_at)) else ((m_expr_parser_is n ([33] : List UInt8) p_l p_i p_in p_e p_at).bind fun y2 => (bif y2 then ((idx p_l p_i).bind fun x5 => (((m_expr_parser_inner n) p_l p_i p_in p_e p_at).bind fun y6 => ((m_expr_node n (⟨5, 0, ([] : List UInt8), ([] : List UInt8), x5.f_At⟩ : S_api_Node) ([(y6).1] : List (List S_api_Node))).bind fun y8 => (some (y8, (y6).2.1, (y6).2.2.1, (y6).2.2.2.1, (y6).2.2.2.2))))) else ((m_expr_parser_is n ([40] : List UInt8) p_l p_i p_in p_e p_at).bind fun y10 => (bif y10 then (((m_expr_parser_inner_1 n) p_l p_i p_in p_e p_at).bind fun y13 => (bif (((y13).2.2.2.1) == 0) then ((m_expr_parser_is n ([41] : List UInt8) p_l ((y13).2.1) ((y13).2.2.1) ((y13).2.2.2.1) ((y13).2.2.2.2)).bind fun y16 => (bif y16 then (some ((y13).1, IntKind.i64.wrap (((y13).2.1) + 1), (y13).2.2.1, (y13).2.2.2.1, (y13).2.2.2.2)) else ((m_expr_parser_fail n 5 p_l ((y13).2.1) ((y13).2.2.1) ((y13).2.2.2.1) ((y13).2.2.2.2)).bind fun y19 => (some ((y19).1, (y13).2.1, (y13).2.2.1, (y19).2.1, (y19).2.2))))) else (some ((y13).1, IntKind.i64.wrap (((y13).2.1) + 1), (y13).2.2.1, (y13).2.2.2.1, (y13).2.2.2.2)))) else (bif decide (p_i < (((p_l).length : Nat) : Int)) then ((idx p_l p_i).bind fun x22 => (bif (x22.f_Kind == 2) then ((idx p_l p_i).bind fun x24 => ((m_expr_node n (⟨1, x24.f_N, ([] : List UInt8), ([] : List UInt8), x24.f_At⟩ : S_api_Node) ([] : List (List S_api_Node))).bind fun y25 => (some (y25, IntKind.i64.wrap (p_i + 1), p_in, p_e, p_at)))) else ((m_expr_parser_name n p_l p_i p_in p_e p_at).bind fun y27 => (bif (y27).2.2.1 then ((m_expr_parser_is n ([46] : List UInt8) p_l ((y27).2.2.2) p_in p_e p_at).bind fun y30 => (bif y30 then ((m_expr_parser_name n p_l (IntKind.i64.wrap (((y27).2.2.2) + 1)) p_in p_e p_at).bind fun y33 => (bif (y33).2.2.1 then ((m_expr_node n (⟨4, 0, (y33).1, (y27).1, (y27).2.1⟩ : S_api_Node) ([] : List (List S_api_Node))).bind fun y36 => (some (y36, (y33).2.2.2, p_in, p_e, p_at))) else ((m_expr_parser_fail n 5 p_l ((y33).2.2.2) p_in p_e p_at).bind fun y38 => (some ((y38).1, (y33).2.2.2, p_in, (y38).2.1, (y38).2.2))))) else ((m_expr_node n (⟨2, 0, (y27).1, ([] : List UInt8), (y27).2.1⟩ : S_api_Node) ([] : List (List S_api_Node))).bind fun y40 => (some (y40, (y27).2.2.2, p_in, p_e, p_at))))) else ((m_expr_parser_fail n 5 p_l ((y27).2.2.2) p_in p_e p_at).bind fun y42 => (some ((y42).1, (y27).2.2.2, p_in, (y42).2.1, (y42).2.2))))))) else ((m_expr_parser_name n p_l p_i p_in p_e p_at).bind fun y44 => (bif (y44).2.2.1 then ((m_expr_parser_is n ([46] : List UInt8) p_l ((y44).2.2.2) p_in p_e p_at).bind fun y47 => (bif y47 then ((m_expr_parser_name n p_l (IntKind.i64.wrap (((y44).2.2.2) + 1)) p_in p_e p_at).bind fun y50 => (bif (y50).2.2.1 then ((m_expr_node n (⟨4, 0, (y50).1, (y44).1, (y44).2.1⟩ : S_api_Node) ([] : List (List S_api_Node))).bind fun y53 => (some (y53, (y50).2.2.2, p_in, p_e, p_at))) else ((m_expr_parser_fail n 5 p_l ((y50).2.2.2) p_in p_e p_at).bind fun y55 => (some ((y55).1, (y50).2.2.2, p_in, (y55).2.1, (y55).2.2))))) else ((m_expr_node n (⟨2, 0, (y44).1, ([] : List UInt8), (y44).2.1⟩ : S_api_Node) ([] : List (List S_api_Node))).bind fun y57 => (some (y57, (y44).2.2.2, p_in, p_e, p_at))))) else ((m_expr_parser_fail n 5 p_l ((y44).2.2.2) p_in p_e p_at).bind fun y59 => (some ((y59).1, (y44).2.2.2, p_in, (y59).2.1, (y59).2.2)))))))))))
def m_expr_parser_sum : Nat → (List S_api_Token) → Int → Int → Int → Int → Option ((List S_api_Node) × Int × Int × Int × Int)
  | 0, _, _, _, _, _ => none
  | n+1, p_l, p_i, p_in, p_e, p_at => (((m_expr_parser_row_3 n) false ([6, 7] : List Int) p_l p_i p_in p_e p_at).bind fun y1 => (some ((y1).1, (y1).2.1, (y1).2.2.1, (y1).2.2.2.1, (y1).2.2.2.2)))
end

def m_expr_Parse : Nat → (List S_api_Token) → Int → Option ((List S_api_Node) × Int × Int × Int)
  | 0, _, _ => none
  | n+1, v0_l, v1_i => (bif decide (v1_i < 0) then (some (([] : List S_api_Node), 0, 1, 0)) else ((m_expr_parser_any n v0_l v1_i 0 0 0).bind fun y2 => (bif (((y2).2.2.2.1) != 0) then (some (([] : List S_api_Node), 0, (y2).2.2.2.1, (y2).2.2.2.2)) else ((m_expr_depth n ((y2).1)).bind fun y5 => (bif decide (30 < y5) then ((idx v0_l v1_i).bind fun x8 => (some (([] : List S_api_Node), 0, 7, x8.f_At))) else (bif decide (200 < ((((y2).1).length : Nat) : Int)) then ((idx v0_l v1_i).bind fun x10 => (some (([] : List S_api_Node), 0, 2, x10.f_At))) else (some ((y2).1, (y2).2.1, 0, 0))))))))

def m_expr_decimal : Nat → Int → Option (List UInt8)
  | 0, _ => none
  | n+1, v0_n => (bif decide (v0_n < 10) then (some ([UInt8.ofNat (IntKind.u8.wrap (IntKind.i64.wrap (48 + v0_n))).toNat] : List UInt8)) else (((m_expr_decimal n) (IntKind.i64.wrap (Int.tdiv v0_n 10))).bind fun y2 => (bif decide ((y2).length + (([UInt8.ofNat (IntKind.u8.wrap (IntKind.i64.wrap (48 + (Int.tmod v0_n 10)))).toNat] : List UInt8)).length ≤ 140737488355328) then (some (y2 ++ ([UInt8.ofNat (IntKind.u8.wrap (IntKind.i64.wrap (48 + (Int.tmod v0_n 10)))).toNat] : List UInt8))) else none)))

def m_expr_shown : Nat → (List S_api_Node) → Int → Bool → Option ((List UInt8) × Int)
  | 0, _, _, _ => none
  | n+1, v0_l, v1_i, v2_operand => ((idx v0_l v1_i).bind fun x1 => (bif (x1.f_Op == 1) then ((m_expr_decimal n x1.f_N).bind fun y3 => (some (y3, IntKind.i64.wrap (v1_i + 1)))) else (bif (x1.f_Op == 2) then (some (x1.f_Name, IntKind.i64.wrap (v1_i + 1))) else (bif (x1.f_Op == 3) then (some (x1.f_Name, IntKind.i64.wrap (v1_i + 1))) else (bif (x1.f_Op == 4) then (bif decide ((x1.f_In).length + (([46] : List UInt8)).length ≤ 140737488355328) then (bif decide (((x1.f_In ++ ([46] : List UInt8))).length + (x1.f_Name).length ≤ 140737488355328) then (some (((x1.f_In ++ ([46] : List UInt8)) ++ x1.f_Name), IntKind.i64.wrap (v1_i + 1))) else none) else none) else (bif (x1.f_Op == 5) then (((m_expr_shown n) v0_l (IntKind.i64.wrap (v1_i + 1)) true).bind fun y11 => ((m_expr_sign n x1.f_Op).bind fun y13 => (bif decide ((y13).length + (((y11).1)).length ≤ 140737488355328) then (some ((y13 ++ ((y11).1)), (y11).2)) else none))) else (((m_expr_shown n) v0_l (IntKind.i64.wrap (v1_i + 1)) true).bind fun y16 => (((m_expr_shown n) v0_l ((y16).2) true).bind fun y18 => (bif decide ((((y16).1)).length + (([32] : List UInt8)).length ≤ 140737488355328) then ((m_expr_sign n x1.f_Op).bind fun y21 => (bif decide (((((y16).1) ++ ([32] : List UInt8))).length + (y21).length ≤ 140737488355328) then (bif decide ((((((y16).1) ++ ([32] : List UInt8)) ++ y21)).length + (([32] : List UInt8)).length ≤ 140737488355328) then (bif decide (((((((y16).1) ++ ([32] : List UInt8)) ++ y21) ++ ([32] : List UInt8))).length + (((y18).1)).length ≤ 140737488355328) then (bif v2_operand then (bif decide ((([40] : List UInt8)).length + (((((((y16).1) ++ ([32] : List UInt8)) ++ y21) ++ ([32] : List UInt8)) ++ ((y18).1))).length ≤ 140737488355328) then (bif decide (((([40] : List UInt8) ++ ((((((y16).1) ++ ([32] : List UInt8)) ++ y21) ++ ([32] : List UInt8)) ++ ((y18).1)))).length + (([41] : List UInt8)).length ≤ 140737488355328) then (some (((([40] : List UInt8) ++ ((((((y16).1) ++ ([32] : List UInt8)) ++ y21) ++ ([32] : List UInt8)) ++ ((y18).1))) ++ ([41] : List UInt8)), (y18).2)) else none) else none) else (some (((((((y16).1) ++ ([32] : List UInt8)) ++ y21) ++ ([32] : List UInt8)) ++ ((y18).1)), (y18).2))) else none) else none) else none)) else none)))))))))

def m_expr_Show : Nat → (List S_api_Node) → Option (List UInt8)
  | 0, _ => none
  | n+1, v0_l => ((m_expr_Right n v0_l).bind fun y1 => (bif y1 then ((m_expr_shown n v0_l 0 false).bind fun y4 => (some ((y4).1))) else (some ([] : List UInt8))))

def m_law02_tokens : Nat → (List UInt8) → Option (List S_api_Token)
  | 0, _ => none
  | n+1, v0_s => ((m_ref01_Scan n v0_s).bind fun y1 => (some ((y1).1)))

def m_law02_known : Nat → Option Bool
  | 0 => none
  | n+1 => ((m_law02_tokens n ([97, 32, 43, 32, 98, 32, 42, 32, 50, 32, 59] : List UInt8)).bind fun y1 => ((m_expr_Parse n y1 0).bind fun y3 => ((m_law02_tokens n ([97, 32, 45, 32, 116, 46, 98, 32, 45, 32, 33, 99] : List UInt8)).bind fun y5 => ((m_expr_Parse n y5 0).bind fun y7 => ((m_law02_tokens n ([40, 97, 32, 43, 32, 59] : List UInt8)).bind fun y9 => ((m_expr_Parse n y9 0).bind fun y11 => ((m_law02_tokens n ([97, 32, 60] : List UInt8)).bind fun y13 => ((m_expr_Parse n y13 0).bind fun y15 => ((m_ref02_Same n ((y3).1) ([(⟨6, 0, ([] : List UInt8), ([] : List UInt8), 2⟩ : S_api_Node), (⟨2, 0, ([97] : List UInt8), ([] : List UInt8), 0⟩ : S_api_Node), (⟨8, 0, ([] : List UInt8), ([] : List UInt8), 6⟩ : S_api_Node), (⟨2, 0, ([98] : List UInt8), ([] : List UInt8), 4⟩ : S_api_Node), (⟨1, 2, ([] : List UInt8), ([] : List UInt8), 8⟩ : S_api_Node)] : List S_api_Node) true).bind fun y17 => (bif y17 then (bif (((y3).2.1) == 5) then (bif (((y3).2.2.1) == 0) then (bif (((y7).2.2.1) == 0) then ((m_expr_Show n ((y3).1)).bind fun y23 => (bif (y23 == ([97, 32, 43, 32, 40, 98, 32, 42, 32, 50, 41] : List UInt8)) then ((m_expr_Show n ((y7).1)).bind fun y26 => (bif (y26 == ([40, 97, 32, 45, 32, 116, 46, 98, 41, 32, 45, 32, 33, 99] : List UInt8)) then (bif (((y11).2.2.1) == 5) then (bif (((y11).2.2.2) == 5) then (bif (((y15).2.2.1) == 6) then (bif (((y15).2.2.2) == 3) then ((m_expr_Right n ((y3).1)).bind fun y33 => (bif y33 then (bif (decide (0 ≤ 1) && decide (1 ≤ ((((y3).1).length : Nat) : Int))) then ((m_expr_Right n (List.drop ((1 : Int).toNat) (List.take (((y3).1).length) ((y3).1)))).bind fun y38 => (bif y38 then (some false) else ((m_expr_Depth n ((y3).1)).bind fun y41 => (bif (y41 == 2) then ((m_expr_End n ((y3).1) 2).bind fun y44 => (bif (y44 == 5) then ((m_expr_Names n ((y7).1)).bind fun y47 => (some ((((y47).length : Nat) : Int) == 3))) else (some false))) else (some false))))) else none) else (some false))) else (some false)) else (some false)) else (some false)) else (some false)) else (some false))) else (some false))) else (some false)) else (some false)) else (some false)) else (some false)))))))))))

def m_law02_ExprShows : Nat → (List S_api_Node) → Int → Option Bool
  | 0, _, _ => none
  | n+1, v0_l, v1_i => ((m_ref02_Light n v0_l).bind fun y1 => (bif y1 then ((m_expr_Right n v0_l).bind fun y4 => ((m_ref02_Right n v0_l).bind fun y6 => (bif (y4 == y6) then ((m_expr_Depth n v0_l).bind fun y9 => ((m_ref02_Depth n v0_l).bind fun y11 => (bif (y9 == y11) then ((m_expr_End n v0_l v1_i).bind fun y14 => ((m_ref02_End n v0_l v1_i).bind fun y16 => (bif (y14 == y16) then ((m_expr_Show n v0_l).bind fun y19 => ((m_ref02_Show n v0_l).bind fun y21 => (bif (y19 == y21) then ((m_expr_Names n v0_l).bind fun y24 => ((m_ref02_Names n v0_l).bind fun y26 => ((m_ref02_Same n y24 y26 true).bind fun y28 => (bif y28 then ((m_law02_known n ).bind fun y31 => (some y31)) else (some false))))) else (some false)))) else (some false)))) else (some false)))) else (some false)))) else ((m_law02_known n ).bind fun y33 => (some y33))))
end Go.Proofs.Ytjobghbdfannfaa
end

section
namespace Go.Proofs.Ytjobghbdfannfaa
set_option linter.unusedVariables false
set_option linter.unusedSimpArgs false

theorem idx_get {α : Type} {l : List α} {i : Nat} (h : i < l.length) : idx l (i : Int) = some l[i] := by rw [idx_nat, List.getElem?_eq_getElem h]
theorem wrap_one (k : Nat) (h : k < 4611686018427387904) : IntKind.i64.wrap ((k : Int) + 1) = ((k + 1 : Nat) : Int) := wrap_succ k (by omega)
theorem bif_decide {α : Type} {p : Prop} [Decidable p] (h : p) (a b : α) : (bif decide p then a else b) = a := by rw [decide_eq_true h]; rfl
theorem bif_not {α : Type} {p : Prop} [Decidable p] (h : ¬ p) (a b : α) : (bif decide p then a else b) = b := by rw [decide_eq_false h]; rfl
theorem natEq (a b : Nat) : ((a : Int) == (b : Int)) = (a == b) := by
  by_cases h : a = b
  · subst h; simp
  · have : ¬ (a : Int) = (b : Int) := by omega
    rw [beq_eq_false_iff_ne.2 h, beq_eq_false_iff_ne.2 this]
theorem natNe (a b : Nat) : ((a : Int) != (b : Int)) = !(a == b) := by rw [← natEq]; rfl
end Go.Proofs.Ytjobghbdfannfaa
end

section
namespace Go.Proofs.Ytjobghbdfannfaa
set_option linter.unusedVariables false
set_option linter.unusedSimpArgs false

/-- A loop over a row. -/
theorem loop_list {α σ ρ : Type} (l : List α) (L : Nat → Nat → σ → Option ρ) (F : List α → σ → Option ρ) (Inv : Nat → σ → Prop)
    (h0 : ∀ k s, Inv l.length s → L (k + 1) l.length s = F [] s)
    (h1 : ∀ k i s x, i < l.length → l[i]? = some x → Inv i s → (∀ s', Inv (i + 1) s' → L k (i + 1) s' = F (l.drop (i + 1)) s') → L (k + 1) i s = F (x :: l.drop (i + 1)) s) :
    ∀ (m k i : Nat) (s : σ), i + m = l.length → m < k → Inv i s → L k i s = F (l.drop i) s := by
  intro m
  induction m with
  | zero =>
    intro k i s hi hk hs
    obtain ⟨k, rfl⟩ : ∃ j, k = j + 1 := ⟨k - 1, by omega⟩
    obtain rfl : i = l.length := by omega
    rw [h0 k s hs, List.drop_length]
  | succ m ih =>
    intro k i s hi hk hs
    obtain ⟨k, rfl⟩ : ∃ j, k = j + 1 := ⟨k - 1, by omega⟩
    have hlt : i < l.length := by omega
    rw [h1 k i s l[i] hlt (List.getElem?_eq_getElem hlt) hs (fun s' hs' => ih k (i + 1) s' (by omega) (by omega) hs'), List.drop_eq_getElem_cons hlt]
theorem loop_list0 {α σ ρ : Type} (l : List α) (L : Nat → Nat → σ → Option ρ) (F : List α → σ → Option ρ) (Inv : Nat → σ → Prop) {k : Nat} {s : σ} (hk : l.length < k) (hs : Inv 0 s)
    (h0 : ∀ k s, Inv l.length s → L (k + 1) l.length s = F [] s)
    (h1 : ∀ k i s x, i < l.length → l[i]? = some x → Inv i s → (∀ s', Inv (i + 1) s' → L k (i + 1) s' = F (l.drop (i + 1)) s') → L (k + 1) i s = F (x :: l.drop (i + 1)) s) :
    L k 0 s = F l s := loop_list l L F Inv h0 h1 l.length k 0 s (by omega) hk hs
theorem idx_some {α : Type} {l : List α} {i : Nat} {x : α} (h : l[i]? = some x) : idx l (i : Int) = some x := by rw [idx_nat, h]

theorem op_cases (op : Int) : op < 1 ∨ 15 ≤ op ∨ op = 1 ∨ op = 2 ∨ op = 3 ∨ op = 4 ∨ op = 5 ∨ op = 6 ∨ op = 7 ∨ op = 8 ∨ op = 9 ∨ op = 10 ∨ op = 11 ∨ op = 12 ∨ op = 13 ∨ op = 14 := by omega
theorem all_list {α : Type} (l : List α) (L : Nat → Nat → Option (LR Unit Bool)) (p : α → Bool) (h0 : ∀ k, L (k + 1) l.length = some (.out ()))
    (h1 : ∀ k i x, i < l.length → l[i]? = some x → L (k + 1) i = bif p x then L k (i + 1) else some (.ret false)) {k : Nat} (hk : l.length < k) : L k 0 = bif l.all p then some (.out ()) else some (.ret false) := by
  refine loop_list0 l (fun k i (_ : Unit) => L k i) (fun l _ => bif l.all p then some (.out ()) else some (.ret false)) (fun _ _ => True) (s := ()) hk trivial (fun k s _ => h0 k) ?_
  intro k i s x hi hx _ ih
  rw [h1 k i x hi hx, ih () trivial, List.all_cons]
  cases p x <;> rfl
theorem any_list {α : Type} (l : List α) (L : Nat → Nat → Option (LR Unit Bool)) (p : α → Bool) (h0 : ∀ k, L (k + 1) l.length = some (.out ()))
    (h1 : ∀ k i x, i < l.length → l[i]? = some x → L (k + 1) i = bif p x then some (.ret true) else L k (i + 1)) {k : Nat} (hk : l.length < k) : L k 0 = bif l.any p then some (.ret true) else some (.out ()) := by
  refine loop_list0 l (fun k i (_ : Unit) => L k i) (fun l _ => bif l.any p then some (.ret true) else some (.out ())) (fun _ _ => True) (s := ()) hk trivial (fun k s _ => h0 k) ?_
  intro k i s x hi hx _ ih
  rw [h1 k i x hi hx, ih () trivial, List.any_cons]
  cases p x <;> rfl
end Go.Proofs.Ytjobghbdfannfaa
end

section
namespace Go.Proofs.Ytjobghbdfannfaa
set_option linter.unusedVariables false
set_option linter.unusedSimpArgs false

abbrev Nd := S_api_Node
def kidsF (op : Int) : Int := if 1 ≤ op ∧ op ≤ 4 then 0 else if op = 5 then 1 else if 6 ≤ op ∧ op ≤ 14 then 2 else -1
theorem kids_m (n : Nat) (op : Int) : m_expr_kids (n + 1) op = some (kidsF op) := by
  rcases op_cases op with h | h | h | h | h | h | h | h | h | h | h | h | h | h | h | h
  · have : kidsF op = -1 := by unfold kidsF; rw [if_neg (by omega), if_neg (by omega), if_neg (by omega)]
    rw [m_expr_kids, this, bif_not (show ¬ 1 ≤ op by omega), beq_eq_false_iff_ne.2 (show op ≠ 5 by omega), cond_false, bif_not (show ¬ 6 ≤ op by omega)]
  · have : kidsF op = -1 := by unfold kidsF; rw [if_neg (by omega), if_neg (by omega), if_neg (by omega)]
    rw [m_expr_kids, this, bif_decide (show 1 ≤ op by omega), bif_not (show ¬ op ≤ 4 by omega), beq_eq_false_iff_ne.2 (show op ≠ 5 by omega), cond_false, bif_decide (show 6 ≤ op by omega), bif_not (show ¬ op ≤ 14 by omega)]
  all_goals rw [h]; rfl
theorem rkids_m (n : Nat) (op : Int) : m_ref02_kids (n + 1) op = some (kidsF op) := by
  have e : m_ref02_kids (n + 1) op = m_expr_kids (n + 1) op := by
    rw [m_ref02_kids, m_expr_kids]
  rw [e, kids_m]
/-- An expression as a tree. -/
inductive Tr where
  | leaf (x : Nd)
  | un (x : Nd) (a : Tr)
  | bin (x : Nd) (a b : Tr)
def Tr.flat : Tr → List Nd
  | .leaf x => [x]
  | .un x a => x :: a.flat
  | .bin x a b => x :: (a.flat ++ b.flat)
def Tr.wf : Tr → Prop
  | .leaf x => kidsF x.f_Op = 0
  | .un x a => kidsF x.f_Op = 1 ∧ a.wf
  | .bin x a b => kidsF x.f_Op = 2 ∧ a.wf ∧ b.wf
def Tr.dep : Tr → Nat
  | .leaf _ => 0
  | .un _ a => 1 + a.dep
  | .bin _ a b => 1 + max a.dep b.dep
/-- How many nodes so many expressions take. -/
def endF : List Nd → Nat → Option Nat
  | [], _ => none
  | x :: l, w => if kidsF x.f_Op < 0 then none else if (w : Int) + kidsF x.f_Op - 1 = 0 then some 1 else (endF l ((w : Int) + kidsF x.f_Op - 1).toNat).map (· + 1)
def flats : List Tr → List Nd
  | [] => []
  | t :: ts => t.flat ++ flats ts
theorem kids_cases (op : Int) : kidsF op = -1 ∨ kidsF op = 0 ∨ kidsF op = 1 ∨ kidsF op = 2 := by
  unfold kidsF
  repeat' split
  all_goals omega
theorem endF_tr : ∀ (t : Tr) (w : Nat) (rest : List Nd), t.wf → 1 ≤ w → endF (t.flat ++ rest) w = if w = 1 then some t.flat.length else (endF rest (w - 1)).map (· + t.flat.length) := by
  intro t
  induction t with
  | leaf x =>
    intro w rest h hw
    simp only [Tr.wf] at h
    simp only [Tr.flat, List.cons_append, List.nil_append, endF, h, List.length_cons, List.length_nil]
    by_cases c : w = 1
    · rw [if_neg (by omega), if_pos (by omega), if_pos c]
    · rw [if_neg (by omega), if_neg (by omega), if_neg c, show ((w : Int) + 0 - 1).toNat = w - 1 by omega]
  | un x a ih =>
    intro w rest h hw
    obtain ⟨h1, h2⟩ := h
    simp only [Tr.flat, List.cons_append, endF, h1, List.length_cons]
    rw [if_neg (by omega), if_neg (by omega), show ((w : Int) + 1 - 1).toNat = w by omega, ih w rest h2 hw]
    by_cases c : w = 1
    · rw [if_pos c, if_pos c]; rfl
    · rw [if_neg c, if_neg c, Option.map_map]; rfl
  | bin x a b iha ihb =>
    intro w rest h hw
    obtain ⟨h1, h2, h3⟩ := h
    simp only [Tr.flat, List.cons_append, endF, h1, List.length_cons, List.append_assoc, List.length_append]
    rw [if_neg (by omega), if_neg (by omega), show ((w : Int) + 2 - 1).toNat = w + 1 by omega, iha (w + 1) _ h2 (by omega), if_neg (by omega), show w + 1 - 1 = w by omega, ihb w rest h3 hw]
    by_cases c : w = 1
    · rw [if_pos c, if_pos c]; exact congrArg some (by dsimp only; omega)
    · rw [if_neg c, if_neg c, Option.map_map, Option.map_map]; congr 1; funext j; simp only [Function.comp_apply]; try omega
theorem of_endF : ∀ (l : List Nd) (w j : Nat), 1 ≤ w → endF l w = some j → ∃ ts : List Tr, ts.length = w ∧ (∀ t ∈ ts, t.wf) ∧ flats ts = l.take j ∧ j ≤ l.length ∧ 1 ≤ j := by
  intro l
  induction l with
  | nil => intro w j _ h; cases h
  | cons x l ih =>
    intro w j hw h
    rw [endF] at h
    rcases kids_cases x.f_Op with g | g | g | g
    · rw [g, if_pos (by omega)] at h; cases h
    all_goals rw [g] at h; rw [if_neg (by omega)] at h
    · by_cases c : w = 1
      · rw [if_pos (by omega)] at h
        obtain rfl := Option.some.inj h
        exact ⟨[.leaf x], by simp [c], by simpa [Tr.wf] using g, by simp [flats, Tr.flat], by simp, by omega⟩
      · rw [if_neg (by omega)] at h
        obtain ⟨j', h1, h2⟩ := Option.map_eq_some_iff.1 h
        obtain ⟨ts, e1, e2, e3, e4, e5⟩ := ih _ j' (by omega) h1
        subst h2
        exact ⟨.leaf x :: ts, by simp [e1]; omega, by simpa [Tr.wf] using ⟨g, e2⟩, by simp [flats, Tr.flat, e3], by simpa using e4, by omega⟩
    · rw [if_neg (by omega)] at h
      obtain ⟨j', h1, h2⟩ := Option.map_eq_some_iff.1 h
      obtain ⟨ts, e1, e2, e3, e4, e5⟩ := ih _ j' (by omega) h1
      subst h2
      match ts, e1, e2, e3 with
      | [], e1, _, _ => simp at e1; omega
      | t :: ts, e1, e2, e3 =>
        exact ⟨.un x t :: ts, by simp at e1 ⊢; omega, by simpa [Tr.wf, g] using e2, by simp only [flats] at e3; simp [flats, Tr.flat, e3], by simpa using e4, by omega⟩
    · rw [if_neg (by omega)] at h
      obtain ⟨j', h1, h2⟩ := Option.map_eq_some_iff.1 h
      obtain ⟨ts, e1, e2, e3, e4, e5⟩ := ih _ j' (by omega) h1
      subst h2
      match ts, e1, e2, e3 with
      | [], e1, _, _ => simp at e1; omega
      | [t], e1, _, _ => simp at e1; omega
      | t :: u :: ts, e1, e2, e3 =>
        refine ⟨.bin x t u :: ts, by simp at e1 ⊢; omega, ?_, by simp only [flats] at e3; simp [flats, Tr.flat, List.append_assoc, e3], by simpa using e4, by omega⟩
        intro v hv
        rcases List.mem_cons.1 hv with rfl | hv
        · exact ⟨g, e2 t (by simp), e2 u (by simp)⟩
        · exact e2 v (by simp [hv])
theorem of_endF1 {l : List Nd} {j : Nat} (h : endF l 1 = some j) : ∃ t : Tr, t.wf ∧ t.flat = l.take j ∧ j ≤ l.length ∧ 1 ≤ j := by
  obtain ⟨ts, e1, e2, e3, e4, e5⟩ := of_endF l 1 j (by omega) h
  match ts, e1, e2, e3 with
  | [t], _, e2, e3 => exact ⟨t, e2 t (by simp), by simpa [flats] using e3, e4, e5⟩
/-- The place behind the expression at a place. -/
def endS (l : List Nd) (i : Int) : Int := if i < 0 then -1 else match endF (l.drop i.toNat) 1 with
  | some j => i + j
  | none => -1
def outI (d : Int) (r : LR Unit Int) : Int := match r with
  | .out _ => d
  | .ret v => v
theorem end_L (n : Nat) (l : List Nd) (hl : l.length < 1000000) : ∀ (m k i w : Nat), i + m = l.length → m < k → 1 ≤ w → w ≤ i + 2 →
    (expr_End_L0 (n + 1) l k (i : Int) (w : Int)).map (outI (-1)) = some (match endF (l.drop i) w with | some j => (i : Int) + j | none => -1) := by
  intro m
  induction m with
  | zero =>
    intro k i w hi hk hw hb
    obtain ⟨k, rfl⟩ : ∃ j, k = j + 1 := ⟨k - 1, by omega⟩
    rw [expr_End_L0, bif_not (by omega), List.drop_of_length_le (by omega)]; rfl
  | succ m ih =>
    intro k i w hi hk hw hb
    obtain ⟨k, rfl⟩ : ∃ j, k = j + 1 := ⟨k - 1, by omega⟩
    have hlt : i < l.length := by omega
    rw [expr_End_L0, bif_decide (by omega), idx_get hlt, List.drop_eq_getElem_cons hlt, endF, Option.bind_some, kids_m, Option.bind_some, wrap_one i (by omega)]
    rcases kids_cases l[i].f_Op with g | g | g | g
    · rw [g, bif_decide (by omega), if_pos (by omega)]; rfl
    all_goals rw [g, bif_not (by omega), if_neg (by omega)]
    · rw [wrap64 (n := 0 - 1) (by omega), wrap64 (by omega)]
      by_cases c : w = 1
      · subst c; rw [if_pos (by omega)]; rfl
      · rw [if_neg (by omega), beq_eq_false_iff_ne.2 (by omega), cond_false, show (w : Int) + (0 - 1) = ((w - 1 : Nat) : Int) by omega, ih k (i + 1) (w - 1) (by omega) (by omega) (by omega) (by omega), show ((w : Int) + 0 - 1).toNat = w - 1 by omega]
        cases endF (l.drop (i + 1)) (w - 1) with
        | none => rfl
        | some j => exact congrArg some (by show ((i + 1 : Nat) : Int) + (j : Int) = (i : Int) + ((j + 1 : Nat) : Int); omega)
    · rw [wrap64 (n := 1 - 1) (by omega), wrap64 (by omega), if_neg (by omega), beq_eq_false_iff_ne.2 (by omega), cond_false, show (w : Int) + (1 - 1) = (w : Int) by omega, ih k (i + 1) w (by omega) (by omega) (by omega) (by omega), show ((w : Int) + 1 - 1).toNat = w by omega]
      cases endF (l.drop (i + 1)) w with
      | none => rfl
      | some j => exact congrArg some (by show ((i + 1 : Nat) : Int) + (j : Int) = (i : Int) + ((j + 1 : Nat) : Int); omega)
    · rw [wrap64 (n := 2 - 1) (by omega), wrap64 (by omega), if_neg (by omega), beq_eq_false_iff_ne.2 (by omega), cond_false, show (w : Int) + (2 - 1) = ((w + 1 : Nat) : Int) by omega, ih k (i + 1) (w + 1) (by omega) (by omega) (by omega) (by omega), show ((w : Int) + 2 - 1).toNat = w + 1 by omega]
      cases endF (l.drop (i + 1)) (w + 1) with
      | none => rfl
      | some j => exact congrArg some (by show ((i + 1 : Nat) : Int) + (j : Int) = (i : Int) + ((j + 1 : Nat) : Int); omega)
theorem lr_map {τ : Type} {o : Option (LR Unit Int)} {d r : Int} (h : o.map (outI d) = some r) : (o.bind fun o11 => match o11 with | .out _ => some d | .ret v => some v) = some r := by
  obtain ⟨x, rfl, h2⟩ := Option.map_eq_some_iff.1 h
  cases x <;> exact congrArg some h2
theorem end_m (n : Nat) (l : List Nd) (i : Int) (hl : l.length < 1000000) (hn : l.length + 4 < n) : m_expr_End n l i = some (endS l i) := by
  obtain ⟨n, rfl⟩ : ∃ j, n = j + 2 := ⟨n - 2, by omega⟩
  rw [m_expr_End, endS]
  by_cases c : i < 0
  · rw [bif_decide c, if_pos c]
  · rw [bif_not c, if_neg c]
    by_cases c2 : i.toNat ≤ l.length
    · have := end_L n l hl (l.length - i.toNat) (n + 1) i.toNat 1 (by omega) (by omega) (by omega) (by omega)
      rw [show ((i.toNat : Nat) : Int) = i by omega] at this
      exact lr_map (τ := Unit) this
    · have e : expr_End_L0 (n + 1) l (n + 1) i 1 = some (.out ()) := by rw [expr_End_L0, bif_not (by omega)]
      rw [e, List.drop_of_length_le (by omega)]; rfl

theorem rend_L (n : Nat) (l : List Nd) (hl : l.length < 1000000) : ∀ (m k i w : Nat), i + m = l.length → m < k → 1 ≤ w → w ≤ i + 2 →
    (ref02_End_L0 (n + 1) l k (w : Int) (i : Int)).map (outI (-1)) = some (match endF (l.drop i) w with | some j => (i : Int) + j | none => -1) := by
  intro m
  induction m with
  | zero =>
    intro k i w hi hk hw hb
    obtain ⟨k, rfl⟩ : ∃ j, k = j + 1 := ⟨k - 1, by omega⟩
    rw [ref02_End_L0, bif_not (by omega), List.drop_of_length_le (by omega)]; rfl
  | succ m ih =>
    intro k i w hi hk hw hb
    obtain ⟨k, rfl⟩ : ∃ j, k = j + 1 := ⟨k - 1, by omega⟩
    have hlt : i < l.length := by omega
    rw [ref02_End_L0, bif_decide (by omega), idx_get hlt, List.drop_eq_getElem_cons hlt, endF, Option.bind_some, rkids_m, Option.bind_some, wrap_one i (by omega), wrap64 (n := (w : Int) - 1) (by omega)]
    rcases kids_cases l[i].f_Op with g | g | g | g
    · rw [g, bif_decide (by omega), if_pos (by omega)]; rfl
    all_goals rw [g, bif_not (by omega), if_neg (by omega)]
    · rw [wrap64 (by omega)]
      by_cases c : w = 1
      · subst c; rw [if_pos (by omega)]; rfl
      · rw [if_neg (by omega), beq_eq_false_iff_ne.2 (by omega), cond_false, show (w : Int) - 1 + 0 = ((w - 1 : Nat) : Int) by omega, ih k (i + 1) (w - 1) (by omega) (by omega) (by omega) (by omega), show ((w : Int) + 0 - 1).toNat = w - 1 by omega]
        cases endF (l.drop (i + 1)) (w - 1) with
        | none => rfl
        | some j => exact congrArg some (by show ((i + 1 : Nat) : Int) + (j : Int) = (i : Int) + ((j + 1 : Nat) : Int); omega)
    · rw [wrap64 (by omega), if_neg (by omega), beq_eq_false_iff_ne.2 (by omega), cond_false, show (w : Int) - 1 + 1 = (w : Int) by omega, ih k (i + 1) w (by omega) (by omega) (by omega) (by omega), show ((w : Int) + 1 - 1).toNat = w by omega]
      cases endF (l.drop (i + 1)) w with
      | none => rfl
      | some j => exact congrArg some (by show ((i + 1 : Nat) : Int) + (j : Int) = (i : Int) + ((j + 1 : Nat) : Int); omega)
    · rw [wrap64 (by omega), if_neg (by omega), beq_eq_false_iff_ne.2 (by omega), cond_false, show (w : Int) - 1 + 2 = ((w + 1 : Nat) : Int) by omega, ih k (i + 1) (w + 1) (by omega) (by omega) (by omega) (by omega), show ((w : Int) + 2 - 1).toNat = w + 1 by omega]
      cases endF (l.drop (i + 1)) (w + 1) with
      | none => rfl
      | some j => exact congrArg some (by show ((i + 1 : Nat) : Int) + (j : Int) = (i : Int) + ((j + 1 : Nat) : Int); omega)
theorem rend_m (n : Nat) (l : List Nd) (i : Int) (hl : l.length < 1000000) (hn : l.length + 4 < n) : m_ref02_End n l i = some (endS l i) := by
  obtain ⟨n, rfl⟩ : ∃ j, n = j + 2 := ⟨n - 2, by omega⟩
  rw [m_ref02_End, endS]
  by_cases c : i < 0
  · rw [bif_decide c, if_pos c]
  · rw [bif_not c, if_neg c]
    by_cases c2 : i.toNat ≤ l.length
    · have := rend_L n l hl (l.length - i.toNat) (n + 1) i.toNat 1 (by omega) (by omega) (by omega) (by omega)
      rw [show ((i.toNat : Nat) : Int) = i by omega] at this
      exact lr_map (τ := Unit) this
    · have e : ref02_End_L0 (n + 1) l (n + 1) 1 i = some (.out ()) := by rw [ref02_End_L0, bif_not (by omega)]
      rw [e, List.drop_of_length_le (by omega)]; rfl
/-- The end of an expression that stands there. -/
theorem endS_tr {t : Tr} (h : t.wf) (pre post : List Nd) : endS (pre ++ (t.flat ++ post)) (pre.length : Int) = ((pre.length + t.flat.length : Nat) : Int) := by
  rw [endS, if_neg (by omega), Int.toNat_natCast, List.drop_left, endF_tr t 1 post h (by omega), if_pos rfl]; simp

def closeF : List Int → List Int
  | [] => []
  | a :: r => if 0 < a - 1 then (a - 1) :: r else closeF r
def depF : List Nd → Int × List Int → Int × List Int
  | [], s => s
  | x :: l, (m, R) => if 0 < kidsF x.f_Op then depF l (if m < (R.length : Int) then (R.length : Int) else m, kidsF x.f_Op :: R) else depF l (if m < (R.length : Int) then (R.length : Int) else m, closeF R)
theorem depF_tr : ∀ (t : Tr) (rest : List Nd) (m : Int) (R : List Int), t.wf → 0 ≤ m → depF (t.flat ++ rest) (m, R) = depF rest (max m (R.length + t.dep : Nat), closeF R) := by
  intro t
  have hmax : ∀ (m : Int) (k : Nat), (if m < (k : Int) then (k : Int) else m) = max m (k : Int) := by intro m k; split <;> omega
  induction t with
  | leaf x =>
    intro rest m R h hm
    simp only [Tr.wf] at h
    simp only [Tr.flat, List.cons_append, List.nil_append, depF, h, Tr.dep, Nat.add_zero]
    rw [if_neg (by omega), hmax]
  | un x a ih =>
    intro rest m R h hm
    obtain ⟨h1, h2⟩ := h
    simp only [Tr.flat, List.cons_append, depF, h1, Tr.dep]
    rw [if_pos (by omega), hmax, ih _ _ _ h2 (by omega), closeF, if_neg (by omega), List.length_cons]
    congr 2; omega
  | bin x a b iha ihb =>
    intro rest m R h hm
    obtain ⟨h1, h2, h3⟩ := h
    simp only [Tr.flat, List.cons_append, depF, h1, Tr.dep, List.append_assoc]
    rw [if_pos (by omega), hmax, iha _ _ _ h2 (by omega), closeF, if_pos (by omega), ihb _ _ _ h3 (by omega), closeF, if_neg (by omega), List.length_cons, List.length_cons]
    congr 2; omega
theorem close_L (n : Nat) : ∀ (R : List Int) (k : Nat), R.length < k → R.length < 1000000 → (∀ v ∈ R, 1 ≤ v ∧ v ≤ 2) → expr_depth_L1 n k R.reverse = some (.out (closeF R).reverse) := by
  intro R
  induction R with
  | nil =>
    intro k hk _ _
    obtain ⟨k, rfl⟩ : ∃ j, k = j + 1 := ⟨k - 1, by omega⟩
    rw [expr_depth_L1, List.reverse_nil]; rfl
  | cons a R ih =>
    intro k hk hl hv
    obtain ⟨k, rfl⟩ : ∃ j, k = j + 1 := ⟨k - 1, by omega⟩
    have ha := hv a (List.mem_cons_self ..)
    rw [List.length_cons] at hl
    have hlen : (a :: R).reverse.length = R.length + 1 := by simp
    have w : IntKind.i64.wrap (((R.length + 1 : Nat) : Int) - 1) = (R.length : Int) := by rw [wrap64 (by omega)]; omega
    have hset : ∀ v : Int, ((a :: R).reverse).set R.length v = R.reverse ++ [v] := by
      intro v; rw [List.reverse_cons, List.set_append_right _ _ (by simp)]; simp
    have g1 : idx (a :: R).reverse (R.length : Int) = some a := by rw [idx_nat, List.reverse_cons, List.getElem?_append_right (by simp)]; simp
    have g2 : ∀ v : Int, idx (R.reverse ++ [v]) (R.length : Int) = some v := by intro v; rw [idx_nat, List.getElem?_append_right (by simp)]; simp
    rw [expr_depth_L1, hlen, bif_decide (by omega), w, g1]
    simp only [Option.bind_some, Int.toNat_natCast, hset, g2]
    rw [wrap64 (n := a - 1) (by omega), closeF]
    by_cases c : 0 < a - 1
    · rw [bif_decide c, if_pos c, List.reverse_cons]
    · have c2 : (decide (0 ≤ (R.length : Int)) && decide ((R.length : Int) ≤ (((R.reverse ++ [a - 1]).length : Nat) : Int))) = true := by
        rw [decide_eq_true (by omega), decide_eq_true (by simp; omega)]; rfl
      have e : List.take R.length (R.reverse ++ [a - 1]) = R.reverse := by
        rw [List.take_append_of_le_length (by simp), List.take_of_length_le (by simp)]
      rw [bif_not c, if_neg c, c2, cond_true, e]
      exact ih k (by rw [List.length_cons] at hk; omega) (by omega) (fun v h => hv v (List.mem_cons_of_mem _ h))
theorem closeF_ok : ∀ (R : List Int), (∀ v ∈ R, 1 ≤ v ∧ v ≤ 2) → (∀ v ∈ closeF R, 1 ≤ v ∧ v ≤ 2) ∧ (closeF R).length ≤ R.length := by
  intro R
  induction R with
  | nil => intro h; exact ⟨h, Nat.le_refl _⟩
  | cons a R ih =>
    intro h
    have ha := h a (List.mem_cons_self ..)
    have hR : ∀ v ∈ R, 1 ≤ v ∧ v ≤ 2 := fun v hv => h v (List.mem_cons_of_mem _ hv)
    rw [closeF]
    split
    · exact ⟨fun v hv => by rcases List.mem_cons.1 hv with rfl | hv; exact ⟨by omega, by omega⟩; exact hR v hv, by simp⟩
    · exact ⟨(ih hR).1, by have := (ih hR).2; simp; omega⟩
theorem depth_L (n : Nat) (l : List Nd) (hl : l.length < 100000) (hn : l.length + 2 < n) {k : Nat} (hk : l.length < k) : expr_depth_L0 n l k 0 0 [] = some (.out ((depF l (0, [])).1, (depF l (0, [])).2.reverse)) := by
  refine loop_list0 l (fun k i (s : Int × List Int) => expr_depth_L0 n l k s.1 (i : Int) s.2.reverse) (fun l s => some (.out ((depF l s).1, (depF l s).2.reverse)))
    (fun i s => s.2.length ≤ i ∧ ∀ v ∈ s.2, 1 ≤ v ∧ v ≤ 2) (s := (0, [])) hk ⟨Nat.le_refl _, by simp⟩ ?_ ?_
  · intro k s hs
    rw [expr_depth_L0, bif_not (by omega)]; rfl
  · rintro k i ⟨m, R⟩ x hi hx ⟨r1, r2⟩ ih
    dsimp only at r1 r2 ⊢
    obtain ⟨n, rfl⟩ : ∃ j, n = j + 1 := ⟨n - 1, by omega⟩
    rw [expr_depth_L0, bif_decide (by omega), idx_some hx, Option.bind_some, kids_m, Option.bind_some, wrap_one i (by omega), List.length_reverse, depF]
    by_cases c : 0 < kidsF x.f_Op
    · rw [bif_decide c, if_pos c, bif_decide (by omega), ← List.reverse_cons]
      refine ih (_, _ :: R) ⟨by simp; omega, fun v hv => ?_⟩
      rcases List.mem_cons.1 hv with rfl | hv
      · rcases kids_cases x.f_Op with g | g | g | g <;> omega
      · exact r2 v hv
    · have hc := closeF_ok R r2
      rw [bif_not c, if_neg c, close_L (n + 1) R (n + 1) (by omega) (by omega) r2, Option.bind_some]
      exact ih (_, closeF R) ⟨by dsimp only; omega, hc.1⟩
theorem Tr.dep_lt (t : Tr) : t.dep < t.flat.length := by
  induction t with
  | leaf x => simp [Tr.dep, Tr.flat]
  | un x a ih => simp [Tr.dep, Tr.flat]; omega
  | bin x a b iha ihb => simp [Tr.dep, Tr.flat]; omega
theorem deep_tr : ∀ (t : Tr) (n : Nat) (pre post : List Nd), t.wf → (pre ++ (t.flat ++ post)).length < 100000 → (pre ++ (t.flat ++ post)).length + 10 + t.dep < n → m_ref02_deep n (pre ++ (t.flat ++ post)) (pre.length : Int) = some (t.dep : Int) := by
  intro t
  induction t with
  | leaf x =>
    intro n pre post h hl hn
    obtain ⟨n, rfl⟩ : ∃ j, n = j + 3 := ⟨n - 3, by omega⟩
    simp only [Tr.wf] at h
    have g : idx (pre ++ ((Tr.leaf x).flat ++ post)) (pre.length : Int) = some x := by rw [idx_nat, List.getElem?_append_right (by simp)]; simp [Tr.flat]
    rw [m_ref02_deep, ref02_deep_L0, g, Option.bind_some, rkids_m, Option.bind_some, h]; rfl
  | un x a ih =>
    intro n pre post h hl hn
    obtain ⟨n, rfl⟩ : ∃ j, n = j + 4 := ⟨n - 4, by omega⟩
    obtain ⟨h1, h2⟩ := h
    have e : pre ++ ((Tr.un x a).flat ++ post) = (pre ++ [x]) ++ (a.flat ++ post) := by simp [Tr.flat]
    have hp : ((pre ++ [x]).length : Int) = (pre.length : Int) + 1 := by simp
    rw [e] at hl hn ⊢
    simp only [Tr.dep] at hn
    have g : idx ((pre ++ [x]) ++ (a.flat ++ post)) (pre.length : Int) = some x := by rw [idx_nat, List.append_assoc, List.getElem?_append_right (by simp)]; simp
    have i1 := ih (n + 3) (pre ++ [x]) post h2 hl (by omega)
    have ee := endS_tr h2 (pre ++ [x]) post
    have hd := a.dep_lt
    simp only [List.length_append, List.length_cons, List.length_nil] at hl hn
    rw [hp] at i1 ee
    rw [m_ref02_deep, ref02_deep_L0, g, Option.bind_some, rkids_m, Option.bind_some, h1, bif_decide (by omega), wrap64 (n := (pre.length : Int) + 1) (by omega), i1, Option.bind_some, rend_m _ _ _ (by simp; omega) (by simp; omega), Option.bind_some, wrap64 (by omega), wrap64 (by omega)]
    rw [ref02_deep_L0, g, Option.bind_some, rkids_m, Option.bind_some, h1, bif_not (by omega)]
    simp only [Option.bind_some, Tr.dep]
    congr 1
    split <;> omega
  | bin x a b iha ihb =>
    intro n pre post h hl hn
    obtain ⟨n, rfl⟩ : ∃ j, n = j + 5 := ⟨n - 5, by omega⟩
    obtain ⟨h1, h2, h3⟩ := h
    have e : pre ++ ((Tr.bin x a b).flat ++ post) = (pre ++ [x]) ++ (a.flat ++ (b.flat ++ post)) := by simp [Tr.flat]
    have e2 : (pre ++ [x]) ++ (a.flat ++ (b.flat ++ post)) = (pre ++ [x] ++ a.flat) ++ (b.flat ++ post) := by simp
    have hp : ((pre ++ [x]).length : Int) = (pre.length : Int) + 1 := by simp
    have hp2 : ((pre ++ [x] ++ a.flat).length : Int) = ((pre ++ [x]).length + a.flat.length : Nat) := by simp; omega
    rw [e] at hl hn ⊢
    simp only [Tr.dep] at hn
    have g : idx ((pre ++ [x]) ++ (a.flat ++ (b.flat ++ post))) (pre.length : Int) = some x := by rw [idx_nat, List.append_assoc, List.getElem?_append_right (by simp)]; simp
    have i1 := iha (n + 4) (pre ++ [x]) (b.flat ++ post) h2 hl (by omega)
    have i2 := ihb (n + 4) (pre ++ [x] ++ a.flat) post h3 (by rw [← e2]; exact hl) (by rw [← e2]; omega)
    have ee := endS_tr h2 (pre ++ [x]) (b.flat ++ post)
    have ee2 := endS_tr h3 (pre ++ [x] ++ a.flat) post
    rw [← e2, hp2] at i2 ee2
    have hd := a.dep_lt
    have hd2 := b.dep_lt
    simp only [List.length_append, List.length_cons, List.length_nil] at hl hn ee2 i2
    rw [hp] at i1 ee
    rw [m_ref02_deep, ref02_deep_L0, g, Option.bind_some, rkids_m, Option.bind_some, h1, bif_decide (by omega), wrap64 (n := (pre.length : Int) + 1) (by omega), i1, Option.bind_some, rend_m _ _ _ (by simp; omega) (by simp; omega), Option.bind_some, wrap64 (n := 1 + (a.dep : Int)) (by omega), wrap64 (n := 0 + 1) (by omega), ee]
    rw [ref02_deep_L0, g, Option.bind_some, rkids_m, Option.bind_some, h1, bif_decide (by omega)]
    simp only [List.length_append, List.length_cons, List.length_nil]
    rw [i2, Option.bind_some, rend_m _ _ _ (by simp; omega) (by simp; omega), Option.bind_some, wrap64 (n := 1 + (b.dep : Int)) (by omega), wrap64 (by omega)]
    rw [ref02_deep_L0, g, Option.bind_some, rkids_m, Option.bind_some, h1, bif_not (by omega)]
    simp only [Option.bind_some, Tr.dep]
    congr 1
    repeat' split
    all_goals omega
end Go.Proofs.Ytjobghbdfannfaa
end

section
namespace Go.Proofs.Ytjobghbdfannfaa
set_option linter.unusedVariables false
set_option linter.unusedSimpArgs false

theorem rletter_m (n : Nat) (c : Int) : m_ref01_letter (n + 1) c = some (letterB c) := by
  rw [m_ref01_letter]
  by_cases h1 : 97 ≤ c <;> by_cases h2 : c ≤ 122 <;> by_cases h3 : 65 ≤ c <;> by_cases h4 : c ≤ 90 <;> simp [letterB, h1, h2, h3, h4] <;> (by_cases h5 : c = 95 <;> simp [h5])
theorem rdigit_m (n : Nat) (c : Int) : m_ref01_digit (n + 1) c = some (digitB c) := by
  rw [m_ref01_digit]
  by_cases h1 : 48 ≤ c <;> simp [digitB, h1]
theorem rkw_m (n : Nat) (s : List UInt8) (hn : 30 < n) : m_ref01_Keyword n s = some (kwB s) := by
  obtain ⟨n, rfl⟩ : ∃ j, n = j + 2 := ⟨n - 2, by omega⟩
  rw [m_ref01_Keyword, m_ref01_words, Option.bind_some]
  have := any_list kws (fun k i => ref01_Keyword_L0 (n + 1) s kws k (i : Int)) (fun x => x == s) (fun k => ?_) (fun k i x hi hx => ?_) (k := n + 1) (by have : kws.length = 21 := rfl; omega)
  · have e : kws.any (fun x => x == s) = kwB s := by
      rw [kwB, List.contains_eq_any_beq]; congr 1; funext x; rw [BEq.comm]
    rw [e] at this
    have this : ref01_Keyword_L0 (n + 1) s kws (n + 1) 0 = _ := this
    show (ref01_Keyword_L0 (n + 1) s kws (n + 1) 0).bind _ = _
    rw [this]
    cases kwB s <;> rfl
  · rw [ref01_Keyword_L0, bif_not (by omega)]
  · have : kws.length = 21 := rfl
    rw [ref01_Keyword_L0, bif_decide (by omega), idx_some hx, Option.bind_some, wrap_one i (by omega)]
theorem rname_m (n : Nat) (s : List UInt8) (hn : s.length + 40 < n) (hs : s.length < 1000000) : m_ref01_Name n s = some (nameB s) := by
  obtain ⟨n, rfl⟩ : ∃ j, n = j + 2 := ⟨n - 2, by omega⟩
  rw [m_ref01_Name]
  by_cases c1 : (s.length : Int) < 1
  · have : s = [] := List.length_eq_zero_iff.1 (by omega)
    subst this; rw [bif_decide c1]; rfl
  by_cases c2 : 16 < (s.length : Int)
  · rw [bif_not c1, bif_decide c2, nameB, decide_eq_false (show ¬ s.length ≤ 16 by omega)]; simp
  rw [bif_not c1, bif_not c2]
  obtain ⟨c, r, rfl⟩ : ∃ c r, s = c :: r := by
    cases s with
    | nil => simp at c1
    | cons c r => exact ⟨c, r, rfl⟩
  have g : idx (c :: r) 0 = some c := rfl
  rw [g, Option.bind_some, rletter_m, Option.bind_some]
  cases hl : letterB (c.toNat : Int) with
  | false =>
    have : nameB (c :: r) = false := nameB_bad (k := 0) (by simp) (by simp [nameAt, hl])
    rw [this]; rfl
  | true =>
    rw [rkw_m _ _ (by omega)]
    simp only [cond_true, Option.bind_some]
    cases hk : kwB (c :: r) with
    | true => simp [nameB, hk]
    | false =>
      have hL : ref01_Name_L0 (n + 1) (c :: r) (n + 1) 0 = bif (c :: r).all (fun x => letterB (x.toNat : Int) || digitB (x.toNat : Int)) then some (.out ()) else some (.ret false) := by
        refine all_list (c :: r) (fun k i => ref01_Name_L0 (n + 1) (c :: r) k (i : Int)) _ (fun k => ?_) (fun k i x hi hx => ?_) (by omega)
        · rw [ref01_Name_L0, bif_not (by omega)]
        · rw [ref01_Name_L0, bif_decide (by omega), idx_some hx, Option.bind_some, rletter_m, Option.bind_some, Option.bind_some, rdigit_m, Option.bind_some, wrap_one i (by omega)]
          cases letterB (x.toNat : Int) <;> rfl
      have e : nameB (c :: r) = (c :: r).all (fun x => letterB (x.toNat : Int) || digitB (x.toNat : Int)) := by
        have e1 : nameB (c :: r) = (List.range (c :: r).length).all (nameAt (c :: r)) := by
          rw [nameB, hk, decide_eq_true (by omega)]; simp
        rw [e1, Bool.eq_iff_iff, List.all_eq_true, List.all_eq_true]
        constructor
        · intro h x hx
          obtain ⟨i, hi, rfl⟩ := List.mem_iff_getElem.1 hx
          have := h i (by simpa using hi)
          simp only [nameAt, List.getElem?_eq_getElem hi] at this
          revert this
          cases letterB _ <;> cases digitB _ <;> simp
        · intro h i hi
          have hi : i < (c :: r).length := by simpa using hi
          have := h _ (List.getElem_mem hi)
          simp only [nameAt, List.getElem?_eq_getElem hi]
          cases i with
          | zero => simp [hl]
          | succ i => simpa using this
      rw [cond_false, hL, ← e]
      cases nameB (c :: r) <;> rfl
/-- Has a node what its operator asks? -/
def nodeOk (x : Nd) : Bool := !decide (x.f_At < 0) && (if x.f_Op = 1 then decide (0 ≤ x.f_N ∧ x.f_N ≤ 9999) && (x.f_Name == [] && x.f_In == [])
  else if x.f_Op = 2 ∨ x.f_Op = 3 then x.f_N == 0 && (nameB x.f_Name && x.f_In == []) else if x.f_Op = 4 then x.f_N == 0 && (nameB x.f_Name && nameB x.f_In) else x.f_N == 0 && (x.f_Name == [] && x.f_In == []))
theorem fits_m (n : Nat) (x : Nd) : m_expr_fits (n + 2) x = some (nodeOk x) := by
  rw [m_expr_fits, nodeOk]
  by_cases c : x.f_At < 0
  · rw [bif_decide c, decide_eq_true c]; rfl
  rw [bif_not c, decide_eq_false c]
  simp only [m_scan_Name, Option.bind_some, beq_self_eq_true, Bool.true_and, Bool.and_true, Bool.not_false]
  by_cases c1 : x.f_Op = 1
  · rw [if_pos c1, c1]
    simp only [beq_self_eq_true, cond_true]
    cases (x.f_Name == []) <;> cases (x.f_In == []) <;> by_cases h : 0 ≤ x.f_N <;> by_cases h2 : x.f_N ≤ 9999 <;> simp [h, h2]
  rw [if_neg c1, beq_eq_false_iff_ne.2 c1]
  by_cases c4 : x.f_Op = 4
  · rw [if_neg (by omega), if_pos c4, c4]
    simp only [beq_self_eq_true, cond_true, cond_false]
    cases nameB x.f_In <;> cases nameB x.f_Name <;> cases (x.f_N == 0) <;> rfl
  rw [if_neg c4, beq_eq_false_iff_ne.2 c4]
  by_cases c2 : x.f_Op = 2
  · rw [if_pos (.inl c2), c2]
    simp only [beq_self_eq_true, cond_true, cond_false]
    cases nameB x.f_Name <;> cases (x.f_N == 0) <;> cases (x.f_In == []) <;> rfl
  rw [beq_eq_false_iff_ne.2 c2]
  by_cases c3 : x.f_Op = 3
  · rw [if_pos (.inr c3), c3]
    simp only [beq_self_eq_true, cond_true, cond_false]
    cases nameB x.f_Name <;> cases (x.f_N == 0) <;> cases (x.f_In == []) <;> rfl
  rw [if_neg (by omega), beq_eq_false_iff_ne.2 c3]
  rfl
theorem rnode_m (n : Nat) (x : Nd) (hn : x.f_Name.length + 50 < n) (hn2 : x.f_In.length + 50 < n) (h1 : x.f_Name.length < 1000000) (h2 : x.f_In.length < 1000000) : m_ref02_node n x = some (nodeOk x) := by
  obtain ⟨n, rfl⟩ : ∃ j, n = j + 1 := ⟨n - 1, by omega⟩
  rw [m_ref02_node, nodeOk]
  by_cases c : x.f_At < 0
  · rw [bif_decide c, decide_eq_true c]; rfl
  rw [bif_not c, decide_eq_false c, rname_m n x.f_Name (by omega) h1, rname_m n x.f_In (by omega) h2]
  simp only [Option.bind_some, Bool.not_false, Bool.true_and]
  by_cases c1 : x.f_Op = 1
  · rw [if_pos c1, c1]
    simp only [beq_self_eq_true, cond_true]
    cases (x.f_Name == []) <;> cases (x.f_In == []) <;> by_cases h : 0 ≤ x.f_N <;> by_cases h2 : x.f_N ≤ 9999 <;> simp [h, h2]
  rw [if_neg c1, beq_eq_false_iff_ne.2 c1]
  by_cases c2 : x.f_Op = 2
  · rw [if_pos (.inl c2), c2]
    simp only [beq_self_eq_true, cond_true, cond_false]
    cases nameB x.f_Name <;> cases (x.f_N == 0) <;> rfl
  rw [beq_eq_false_iff_ne.2 c2]
  by_cases c3 : x.f_Op = 3
  · rw [if_pos (.inr c3), c3]
    simp only [beq_self_eq_true, cond_true, cond_false]
    cases nameB x.f_Name <;> cases (x.f_N == 0) <;> rfl
  rw [if_neg (by omega), beq_eq_false_iff_ne.2 c3]
  by_cases c4 : x.f_Op = 4
  · rw [if_pos c4, c4]
    simp only [beq_self_eq_true, cond_true, cond_false]
    cases nameB x.f_Name <;> cases (x.f_N == 0) <;> rfl
  rw [if_neg c4, beq_eq_false_iff_ne.2 c4]
  cases (x.f_Name == []) <;> cases (x.f_N == 0) <;> rfl
/-- May an expression be? -/
def exprOk (l : List Nd) : Bool := decide (1 ≤ l.length ∧ l.length ≤ 200) && (decide (endF l 1 = some l.length) && (l.all nodeOk && decide ((depF l (0, [])).1 ≤ 30)))
theorem depth_m2 (n : Nat) (l : List Nd) (hl : l.length < 100000) (hn : l.length + 4 < n) : m_expr_depth n l = some (depF l (0, [])).1 := by
  obtain ⟨n, rfl⟩ : ∃ j, n = j + 1 := ⟨n - 1, by omega⟩
  rw [m_expr_depth, depth_L n l hl (by omega) (by omega)]; rfl
theorem endS0 (l : List Nd) (hl : 1 ≤ l.length) : (endS l 0 != (l.length : Int)) = !decide (endF l 1 = some l.length) := by
  have e : endS l 0 = match endF l 1 with | some j => ((j : Nat) : Int) | none => -1 := by
    rw [endS, if_neg (by omega)]
    show (match endF l 1 with | some j => (0 : Int) + (j : Int) | none => -1) = _
    cases endF l 1 with
    | none => rfl
    | some j => simp
  rw [e]
  cases endF l 1 with
  | none =>
    show ((-1 : Int) != (l.length : Int)) = _
    rw [bne_iff_ne.2 (by omega)]; simp
  | some j =>
    show (((j : Nat) : Int) != (l.length : Int)) = _
    rw [natNe]
    by_cases h : j = l.length <;> simp [h]
theorem eright_m (n : Nat) (l : List Nd) (hl : l.length < 100000) (hn : l.length + 20 < n) : m_expr_Right n l = some (exprOk l) := by
  obtain ⟨n, rfl⟩ : ∃ j, n = j + 3 := ⟨n - 3, by omega⟩
  rw [m_expr_Right, exprOk]
  by_cases c1 : l.length = 0
  · rw [beq_iff_eq.2 (show ((l.length : Nat) : Int) = 0 by omega), decide_eq_false (show ¬ (1 ≤ l.length ∧ l.length ≤ 200) by omega)]; rfl
  rw [beq_eq_false_iff_ne.2 (show ((l.length : Nat) : Int) ≠ 0 by omega)]
  by_cases c2 : 200 < (l.length : Int)
  · rw [bif_decide c2, decide_eq_false (show ¬ (1 ≤ l.length ∧ l.length ≤ 200) by omega)]; rfl
  have hL : expr_Right_L0 (n + 2) l (n + 2) 0 = bif l.all nodeOk then some (.out ()) else some (.ret false) := by
    refine all_list l (fun k i => expr_Right_L0 (n + 2) l k (i : Int)) _ (fun k => ?_) (fun k i x hi hx => ?_) (by omega)
    · rw [expr_Right_L0, bif_not (by omega)]
    · rw [expr_Right_L0, bif_decide (by omega), idx_some hx, Option.bind_some, fits_m, Option.bind_some, wrap_one i (by omega)]
  rw [bif_not c2, end_m (n + 2) l 0 (by omega) (by omega), Option.bind_some, endS0 l (by omega), hL, decide_eq_true (show 1 ≤ l.length ∧ l.length ≤ 200 by omega)]
  simp only [cond_false, depth_m2 (n + 2) l hl (by omega)]
  cases decide (endF l 1 = some l.length) with
  | false => rfl
  | true => cases l.all nodeOk <;> rfl
def lightE (l : List Nd) : Bool := decide (l.length ≤ 250) && l.all fun x => decide (x.f_Name.length ≤ 100 ∧ x.f_In.length ≤ 100)
theorem rlightE_m (n : Nat) (l : List Nd) (hn : 260 < n) : m_ref02_Light n l = some (lightE l) := by
  obtain ⟨n, rfl⟩ : ∃ j, n = j + 1 := ⟨n - 1, by omega⟩
  rw [m_ref02_Light, lightE]
  by_cases c : 250 < (l.length : Int)
  · rw [bif_decide c, decide_eq_false (by omega)]; rfl
  have hL : ref02_Light_L0 n l n 0 = bif l.all (fun x => decide (x.f_Name.length ≤ 100 ∧ x.f_In.length ≤ 100)) then some (.out ()) else some (.ret false) := by
    refine all_list l (fun k i => ref02_Light_L0 n l k (i : Int)) _ (fun k => ?_) (fun k i x hi hx => ?_) (by omega)
    · rw [ref02_Light_L0, bif_not (by omega)]
    · rw [ref02_Light_L0, bif_decide (by omega), idx_some hx, Option.bind_some, Option.bind_some, wrap_one i (by omega)]
      by_cases h1 : 100 < (x.f_Name.length : Int)
      · rw [bif_decide h1, bif_not (by omega)]
      · by_cases h2 : 100 < (x.f_In.length : Int)
        · rw [bif_not h1, bif_decide h2, bif_not (by omega)]
        · rw [bif_not h1, bif_not h2, bif_decide (by omega)]
  rw [bif_not c, hL, decide_eq_true (by omega)]
  cases List.all l _ <;> rfl
theorem rright_e (n : Nat) (l : List Nd) (hl : lightE l = true) (hn : 500 < n) : m_ref02_Right n l = some (exprOk l) := by
  simp only [lightE, Bool.and_eq_true, decide_eq_true_eq, List.all_eq_true] at hl
  obtain ⟨n, rfl⟩ : ∃ j, n = j + 3 := ⟨n - 3, by omega⟩
  rw [m_ref02_Right, exprOk]
  by_cases c2 : 200 < (l.length : Int)
  · rw [bif_decide c2, decide_eq_false (show ¬ (1 ≤ l.length ∧ l.length ≤ 200) by omega)]; rfl
  rw [bif_not c2]
  by_cases c1 : l.length = 0
  · rw [beq_iff_eq.2 (show ((l.length : Nat) : Int) = 0 by omega), decide_eq_false (show ¬ (1 ≤ l.length ∧ l.length ≤ 200) by omega)]; rfl
  rw [beq_eq_false_iff_ne.2 (show ((l.length : Nat) : Int) ≠ 0 by omega)]
  have hL : ref02_Right_L0 (n + 2) l (n + 2) 0 = bif l.all nodeOk then some (.out ()) else some (.ret false) := by
    refine all_list l (fun k i => ref02_Right_L0 (n + 2) l k (i : Int)) _ (fun k => ?_) (fun k i x hi hx => ?_) (by omega)
    · rw [ref02_Right_L0, bif_not (by omega)]
    · have := hl.2 x (List.mem_of_getElem? hx)
      rw [ref02_Right_L0, bif_decide (by omega), idx_some hx, Option.bind_some, rnode_m _ x (by omega) (by omega) (by omega) (by omega), Option.bind_some, wrap_one i (by omega)]
  rw [rend_m (n + 2) l 0 (by omega) (by omega), Option.bind_some, endS0 l (by omega), hL, decide_eq_true (show 1 ≤ l.length ∧ l.length ≤ 200 by omega)]
  simp only [cond_false]
  by_cases he : endF l 1 = some l.length
  · rw [decide_eq_true he]
    cases l.all nodeOk with
    | false => rfl
    | true =>
      obtain ⟨t, h1, h2, _, _⟩ := of_endF1 he
      rw [List.take_length] at h2
      have hd := t.dep_lt
      have e1 : m_ref02_deep (n + 2) l 0 = some (t.dep : Int) := by
        have := deep_tr t (n + 2) [] [] h1 (by simp [h2]; omega) (by simp [h2]; rw [h2] at hd; omega)
        simpa [h2] using this
      have e2 : (depF l (0, [])).1 = (t.dep : Int) := by
        have := depF_tr t [] 0 [] h1 (by omega)
        rw [List.append_nil, h2] at this
        rw [this]; simp [depF]
      simp only [Bool.not_true, cond_false, cond_true, Option.bind_some, e1, e2, Bool.true_and]
  · rw [decide_eq_false he]; rfl
end Go.Proofs.Ytjobghbdfannfaa
end

section
namespace Go.Proofs.Ytjobghbdfannfaa
set_option linter.unusedVariables false
set_option linter.unusedSimpArgs false

theorem digits_same : ∀ (n : Nat) (x : Int), m_ref01_Digits n x = m_expr_decimal n x := by
  intro n
  induction n with
  | zero => intro x; rfl
  | succ n ih => intro x; rw [m_ref01_Digits, m_expr_decimal, ih]
def digS (n : Int) : List UInt8 := (m_expr_decimal 5 n).getD []
theorem kids0 {x : Nd} : kidsF x.f_Op = 0 ↔ 1 ≤ x.f_Op ∧ x.f_Op ≤ 4 := by
  unfold kidsF; repeat' split
  all_goals omega
theorem dec_j : ∀ (j : Nat) (x : Int), j < 10 → 0 ≤ x → x < 100000 → x < 10 ^ (j + 1) → ∃ d : List UInt8, d.length ≤ j + 1 ∧ ∀ k, j < k → m_expr_decimal k x = some d := by
  intro j
  induction j with
  | zero =>
    intro x _ h0 _ h1
    refine ⟨[UInt8.ofNat (IntKind.u8.wrap (IntKind.i64.wrap (48 + x))).toNat], by simp, fun k hk => ?_⟩
    obtain ⟨k, rfl⟩ : ∃ i, k = i + 1 := ⟨k - 1, by omega⟩
    rw [m_expr_decimal, bif_decide (by simp at h1; omega)]
  | succ j ih =>
    intro x hj h0 hx h1
    by_cases c : x < 10
    · refine ⟨[UInt8.ofNat (IntKind.u8.wrap (IntKind.i64.wrap (48 + x))).toNat], by simp, fun k hk => ?_⟩
      obtain ⟨k, rfl⟩ : ∃ i, k = i + 1 := ⟨k - 1, by omega⟩
      rw [m_expr_decimal, bif_decide c]
    · have hp : (10 : Int) ^ (j + 1 + 1) = 10 ^ (j + 1) * 10 := Int.pow_succ 10 (j + 1)
      obtain ⟨d, d1, d2⟩ := ih (x / 10) (by omega) (by omega) (by omega) (by omega)
      refine ⟨d ++ [UInt8.ofNat (IntKind.u8.wrap (IntKind.i64.wrap (48 + (Int.tmod x 10)))).toNat], by simp; omega, fun k hk => ?_⟩
      obtain ⟨k, rfl⟩ : ∃ i, k = i + 1 := ⟨k - 1, by omega⟩
      rw [m_expr_decimal, bif_not c, Int.tdiv_eq_ediv_of_nonneg h0, wrap64 (by omega), d2 k (by omega), Option.bind_some, bif_decide (by simp; omega)]
theorem dec_m {x : Int} (h : 0 ≤ x ∧ x ≤ 9999) : (digS x).length ≤ 4 ∧ ∀ k, 4 ≤ k → m_expr_decimal k x = some (digS x) := by
  obtain ⟨d, d1, d2⟩ := dec_j 3 x (by omega) h.1 (by omega) (by simp; omega)
  have : digS x = d := by rw [digS, d2 5 (by omega)]; rfl
  rw [this]; exact ⟨d1, fun k hk => d2 k (by omega)⟩
def signF (op : Int) : List UInt8 := if op = 5 then [33] else if op = 6 then [43] else if op = 7 then [45] else if op = 8 then [42] else if op = 9 then [61, 61] else if op = 10 then [33, 61] else if op = 11 then [60] else if op = 12 then [60, 61] else if op = 13 then [38, 38] else [124, 124]
theorem sign_m (n : Nat) {op : Int} (h : 5 ≤ op ∧ op ≤ 14) : m_expr_sign (n + 1) op = some (signF op) ∧ m_ref02_sign (n + 1) op = some (signF op) ∧ (signF op).length ≤ 2 := by
  rcases op_cases op with h | h | h | h | h | h | h | h | h | h | h | h | h | h | h | h
  all_goals try omega
  all_goals subst h; exact ⟨rfl, rfl, by decide⟩
/-- An expression as text. -/
def showT : Tr → Bool → List UInt8
  | .leaf x, _ => if x.f_Op = 1 then digS x.f_N else if x.f_Op = 4 then x.f_In ++ [46] ++ x.f_Name else x.f_Name
  | .un _ a, _ => [33] ++ showT a true
  | .bin x a b, o => bif o then ([40] ++ (showT a true ++ [32] ++ signF x.f_Op ++ [32] ++ showT b true)) ++ [41] else showT a true ++ [32] ++ signF x.f_Op ++ [32] ++ showT b true
def NodesOk (l : List Nd) : Prop := ∀ x ∈ l, nodeOk x = true ∧ x.f_Name.length ≤ 100 ∧ x.f_In.length ≤ 100
theorem leaf_num {x : Nd} (h : nodeOk x = true) (h1 : x.f_Op = 1) : 0 ≤ x.f_N ∧ x.f_N ≤ 9999 := by
  simp only [nodeOk, h1, if_true, Bool.and_eq_true, decide_eq_true_eq] at h
  exact h.2.1
theorem showT_len : ∀ (t : Tr) (o : Bool), t.wf → NodesOk t.flat → (showT t o).length ≤ 300 * t.flat.length := by
  intro t
  induction t with
  | leaf x =>
    intro o h hn
    have := hn x (by simp [Tr.flat])
    have h4 := (kids0 (x := x)).1 h
    simp only [showT, Tr.flat, List.length_cons, List.length_nil]
    split
    · rename_i c; have := (dec_m (leaf_num this.1 c)).1; omega
    · split
      · simp; omega
      · omega
  | un x a ih =>
    intro o h hn
    have := ih true h.2 (fun y hy => hn y (by simp [Tr.flat, hy]))
    simp only [showT, Tr.flat, List.length_cons, List.length_append, List.length_nil]; omega
  | bin x a b iha ihb =>
    intro o h hn
    have h1 := iha true h.2.1 (fun y hy => hn y (by simp [Tr.flat, hy]))
    have h2 := ihb true h.2.2 (fun y hy => hn y (by simp [Tr.flat, hy]))
    have h5 : 5 ≤ x.f_Op ∧ x.f_Op ≤ 14 := by have h1 := h.1; unfold kidsF at h1; split at h1 <;> (try split at h1) <;> (try split at h1) <;> omega
    have h3 := (sign_m 0 h5).2.2
    cases o <;> simp only [showT, cond_true, cond_false, Tr.flat, List.length_cons, List.length_append, List.length_nil] <;> omega
theorem idx_at {pre post : List Nd} {x : Nd} {r : List Nd} : idx (pre ++ (x :: r ++ post)) (pre.length : Int) = some x := by rw [idx_nat, List.getElem?_append_right (by simp)]; simp
theorem shown_tr : ∀ (t : Tr) (n : Nat) (pre post : List Nd) (o : Bool), t.wf → NodesOk t.flat → (pre ++ (t.flat ++ post)).length < 1000 → t.dep + 10 < n → m_expr_shown n (pre ++ (t.flat ++ post)) (pre.length : Int) o = some (showT t o, ((pre.length + t.flat.length : Nat) : Int)) := by
  intro t
  induction t with
  | leaf x =>
    intro n pre post o h hn hl hf
    obtain ⟨n, rfl⟩ : ∃ j, n = j + 1 := ⟨n - 1, by omega⟩
    have h4 := (kids0 (x := x)).1 h
    have hx := hn x (by simp [Tr.flat])
    simp only [List.length_append, Tr.flat, List.length_cons, List.length_nil] at hl
    have g : idx (pre ++ ((Tr.leaf x).flat ++ post)) (pre.length : Int) = some x := by rw [Tr.flat]; exact idx_at
    rw [m_expr_shown, g, Option.bind_some, wrap_one pre.length (by omega)]
    simp only [showT, Tr.flat, List.length_cons, List.length_nil, Nat.zero_add]
    have h4' : x.f_Op = 1 ∨ x.f_Op = 2 ∨ x.f_Op = 3 ∨ x.f_Op = 4 := by omega
    rcases h4' with c | c | c | c <;> simp only [c]
    · simp only [(dec_m (leaf_num hx.1 c)).2 n (by omega)]; rfl
    · rfl
    · rfl
    · show (bif decide (x.f_In.length + 1 ≤ 140737488355328) then _ else _) = _
      rw [bif_decide (by omega), bif_decide (by simp; omega)]; rfl
  | un x a ih =>
    intro n pre post o h hn hl hf
    obtain ⟨n, rfl⟩ : ∃ j, n = j + 2 := ⟨n - 2, by omega⟩
    have h5 : x.f_Op = 5 := by have h1 := h.1; unfold kidsF at h1; split at h1 <;> (try split at h1) <;> (try split at h1) <;> omega
    have e : pre ++ ((Tr.un x a).flat ++ post) = (pre ++ [x]) ++ (a.flat ++ post) := by simp [Tr.flat]
    have hp1 : ((pre ++ [x]).length : Int) = ((pre.length + 1 : Nat) : Int) := by simp
    have g : idx (pre ++ ((Tr.un x a).flat ++ post)) (pre.length : Int) = some x := by rw [Tr.flat]; exact idx_at
    have hna : NodesOk a.flat := fun y hy => hn y (by simp [Tr.flat, hy])
    have i1 := ih (n + 1) (pre ++ [x]) post true h.2 hna (by rw [← e]; exact hl) (by simp only [Tr.dep] at hf; omega)
    rw [← e, hp1] at i1
    have hs := showT_len a true h.2 hna
    have sg := sign_m n (op := 5) (by omega)
    simp only [List.length_append, Tr.flat, List.length_cons, List.length_nil] at hl
    rw [m_expr_shown, g, Option.bind_some, wrap_one pre.length (by omega), h5]
    simp only [i1, sg.1, Option.bind_some, show ((5 : Int) == 1) = false from rfl, show ((5 : Int) == 2) = false from rfl, show ((5 : Int) == 3) = false from rfl, show ((5 : Int) == 4) = false from rfl, beq_self_eq_true, cond_false, cond_true]
    have e5 : signF 5 = [33] := rfl
    rw [e5, bif_decide (by simp; omega)]
    simp only [showT, Tr.flat, List.length_cons, List.length_append, List.length_nil]
    congr 2; omega
  | bin x a b iha ihb =>
    intro n pre post o h hn hl hf
    obtain ⟨n, rfl⟩ : ∃ j, n = j + 2 := ⟨n - 2, by omega⟩
    have h5 : 6 ≤ x.f_Op ∧ x.f_Op ≤ 14 := by have h1 := h.1; unfold kidsF at h1; split at h1 <;> (try split at h1) <;> (try split at h1) <;> omega
    have e : pre ++ ((Tr.bin x a b).flat ++ post) = (pre ++ [x]) ++ (a.flat ++ (b.flat ++ post)) := by simp [Tr.flat]
    have e2 : pre ++ ((Tr.bin x a b).flat ++ post) = (pre ++ [x] ++ a.flat) ++ (b.flat ++ post) := by simp [Tr.flat]
    have hp1 : ((pre ++ [x]).length : Int) = ((pre.length + 1 : Nat) : Int) := by simp
    have hp2 : (((pre ++ [x]).length + a.flat.length : Nat) : Int) = ((pre ++ [x] ++ a.flat).length : Int) := by simp; omega
    have g : idx (pre ++ ((Tr.bin x a b).flat ++ post)) (pre.length : Int) = some x := by rw [Tr.flat]; exact idx_at
    have hna : NodesOk a.flat := fun y hy => hn y (by simp [Tr.flat, hy])
    have hnb : NodesOk b.flat := fun y hy => hn y (by simp [Tr.flat, hy])
    simp only [Tr.dep] at hf
    have i1 := iha (n + 1) (pre ++ [x]) (b.flat ++ post) true h.2.1 hna (by rw [← e]; exact hl) (by omega)
    have i2 := ihb (n + 1) (pre ++ [x] ++ a.flat) post true h.2.2 hnb (by rw [← e2]; exact hl) (by omega)
    rw [← e, hp1, hp2] at i1
    rw [← e2] at i2
    have hs := showT_len a true h.2.1 hna
    have hs2 := showT_len b true h.2.2 hnb
    have sg := sign_m n (op := x.f_Op) (by omega)
    simp only [List.length_append, Tr.flat, List.length_cons, List.length_nil] at hl
    rw [m_expr_shown, g, Option.bind_some, wrap_one pre.length (by omega)]
    simp only [i1, i2, sg.1, Option.bind_some, beq_eq_false_iff_ne.2 (show x.f_Op ≠ 1 by omega), beq_eq_false_iff_ne.2 (show x.f_Op ≠ 2 by omega), beq_eq_false_iff_ne.2 (show x.f_Op ≠ 3 by omega), beq_eq_false_iff_ne.2 (show x.f_Op ≠ 4 by omega), beq_eq_false_iff_ne.2 (show x.f_Op ≠ 5 by omega), cond_false, cond_true]
    have sl := sg.2.2
    rw [bif_decide (by simp; omega), bif_decide (by simp; omega), bif_decide (by simp; omega), bif_decide (by simp; omega)]
    cases o with
    | false =>
      simp only [cond_false, showT, Tr.flat, List.length_cons, List.length_append, List.length_nil]
      congr 2; omega
    | true =>
      rw [cond_true, bif_decide (by simp; omega), bif_decide (by simp; omega)]
      simp only [cond_true, showT, Tr.flat, List.length_cons, List.length_append, List.length_nil]
      congr 2; omega
theorem rshow_tr : ∀ (t : Tr) (n : Nat) (pre post : List Nd), t.wf → NodesOk t.flat → (pre ++ (t.flat ++ post)).length < 1000 → 2 * t.dep + (pre ++ (t.flat ++ post)).length + 20 < n →
    m_ref02_show n (pre ++ (t.flat ++ post)) (pre.length : Int) = some (showT t false) ∧ m_ref02_operand (n + 1) (pre ++ (t.flat ++ post)) (pre.length : Int) = some (showT t true) := by
  intro t
  have opn : ∀ (t : Tr) (n : Nat) (pre post : List Nd), t.wf → NodesOk t.flat → 5 < n → (pre ++ (t.flat ++ post)).length < 1000 → m_ref02_show n (pre ++ (t.flat ++ post)) (pre.length : Int) = some (showT t false) → m_ref02_operand (n + 1) (pre ++ (t.flat ++ post)) (pre.length : Int) = some (showT t true) := by
    intro t n pre post h hn hf hl hs
    obtain ⟨n, rfl⟩ : ∃ j, n = j + 1 := ⟨n - 1, by omega⟩
    have hlen := showT_len t false h hn
    simp only [List.length_append] at hl
    rw [m_ref02_operand, hs, Option.bind_some]
    cases t with
    | leaf x =>
      have g : idx (pre ++ ((Tr.leaf x).flat ++ post)) (pre.length : Int) = some x := by rw [Tr.flat]; exact idx_at
      rw [g, Option.bind_some, rkids_m, Option.bind_some, show kidsF x.f_Op = 0 from h]; rfl
    | un x a =>
      have g : idx (pre ++ ((Tr.un x a).flat ++ post)) (pre.length : Int) = some x := by rw [Tr.flat]; exact idx_at
      rw [g, Option.bind_some, rkids_m, Option.bind_some, h.1]; rfl
    | bin x a b =>
      have g : idx (pre ++ ((Tr.bin x a b).flat ++ post)) (pre.length : Int) = some x := by rw [Tr.flat]; exact idx_at
      rw [g, Option.bind_some, rkids_m, Option.bind_some, h.1]
      rw [beq_self_eq_true, cond_true, bif_decide (by simp only [List.length_cons, List.length_nil]; omega), bif_decide (by simp only [List.length_cons, List.length_nil, List.length_append] at hlen ⊢; omega)]
      rfl
  suffices H : ∀ (n : Nat) (pre post : List Nd), t.wf → NodesOk t.flat → (pre ++ (t.flat ++ post)).length < 1000 → 2 * t.dep + (pre ++ (t.flat ++ post)).length + 20 < n → m_ref02_show n (pre ++ (t.flat ++ post)) (pre.length : Int) = some (showT t false) by
    intro n pre post h hn hl hf
    have := H n pre post h hn hl hf
    exact ⟨this, opn t n pre post h hn (by omega) hl this⟩
  induction t with
  | leaf x =>
    intro n pre post h hn hl hf
    obtain ⟨n, rfl⟩ : ∃ j, n = j + 1 := ⟨n - 1, by omega⟩
    have h4 := (kids0 (x := x)).1 h
    have hx := hn x (by simp [Tr.flat])
    have g : idx (pre ++ ((Tr.leaf x).flat ++ post)) (pre.length : Int) = some x := by rw [Tr.flat]; exact idx_at
    rw [m_ref02_show, g, Option.bind_some, digits_same]
    simp only [showT]
    have h4' : x.f_Op = 1 ∨ x.f_Op = 2 ∨ x.f_Op = 3 ∨ x.f_Op = 4 := by omega
    rcases h4' with c | c | c | c <;> simp only [c]
    · simp only [(dec_m (leaf_num hx.1 c)).2 n (by omega)]; rfl
    · rfl
    · rfl
    · show (bif decide (x.f_In.length + 1 ≤ 140737488355328) then _ else _) = _
      rw [bif_decide (by omega), bif_decide (by simp; omega)]; rfl
  | un x a ih =>
    intro n pre post h hn hl hf
    obtain ⟨n, rfl⟩ : ∃ j, n = j + 2 := ⟨n - 2, by omega⟩
    have h5 : x.f_Op = 5 := by have h1 := h.1; unfold kidsF at h1; split at h1 <;> (try split at h1) <;> (try split at h1) <;> omega
    have e : pre ++ ((Tr.un x a).flat ++ post) = (pre ++ [x]) ++ (a.flat ++ post) := by simp [Tr.flat]
    have hp1 : ((pre ++ [x]).length : Int) = ((pre.length + 1 : Nat) : Int) := by simp
    have g : idx (pre ++ ((Tr.un x a).flat ++ post)) (pre.length : Int) = some x := by rw [Tr.flat]; exact idx_at
    have hna : NodesOk a.flat := fun y hy => hn y (by simp [Tr.flat, hy])
    simp only [Tr.dep] at hf
    have hl' : ((pre ++ [x]) ++ (a.flat ++ post)).length < 1000 := by rw [← e]; exact hl
    have i1 := opn a n (pre ++ [x]) post h.2 hna (by omega) hl' (ih n (pre ++ [x]) post h.2 hna hl' (by rw [← e]; omega))
    rw [← e, hp1] at i1
    have hs := showT_len a true h.2 hna
    simp only [List.length_append, Tr.flat, List.length_cons, List.length_nil] at hl
    rw [m_ref02_show, g, Option.bind_some, wrap_one pre.length (by omega), h5]
    simp only [i1, Option.bind_some, show ((5 : Int) == 1) = false from rfl, show ((5 : Int) == 2) = false from rfl, show ((5 : Int) == 3) = false from rfl, show ((5 : Int) == 4) = false from rfl, beq_self_eq_true, cond_false, cond_true]
    rw [bif_decide (by simp; omega)]; rfl
  | bin x a b iha ihb =>
    intro n pre post h hn hl hf
    obtain ⟨n, rfl⟩ : ∃ j, n = j + 2 := ⟨n - 2, by omega⟩
    have h5 : 6 ≤ x.f_Op ∧ x.f_Op ≤ 14 := by have h1 := h.1; unfold kidsF at h1; split at h1 <;> (try split at h1) <;> (try split at h1) <;> omega
    have e : pre ++ ((Tr.bin x a b).flat ++ post) = (pre ++ [x]) ++ (a.flat ++ (b.flat ++ post)) := by simp [Tr.flat]
    have e2 : pre ++ ((Tr.bin x a b).flat ++ post) = (pre ++ [x] ++ a.flat) ++ (b.flat ++ post) := by simp [Tr.flat]
    have hp1 : ((pre ++ [x]).length : Int) = ((pre.length + 1 : Nat) : Int) := by simp
    have hp2 : (((pre ++ [x]).length + a.flat.length : Nat) : Int) = ((pre ++ [x] ++ a.flat).length : Int) := by simp; omega
    have g : idx (pre ++ ((Tr.bin x a b).flat ++ post)) (pre.length : Int) = some x := by rw [Tr.flat]; exact idx_at
    have hna : NodesOk a.flat := fun y hy => hn y (by simp [Tr.flat, hy])
    have hnb : NodesOk b.flat := fun y hy => hn y (by simp [Tr.flat, hy])
    simp only [Tr.dep] at hf
    have hl1 : ((pre ++ [x]) ++ (a.flat ++ (b.flat ++ post))).length < 1000 := by rw [← e]; exact hl
    have hl2 : ((pre ++ [x] ++ a.flat) ++ (b.flat ++ post)).length < 1000 := by rw [← e2]; exact hl
    have i1 := opn a n (pre ++ [x]) (b.flat ++ post) h.2.1 hna (by omega) hl1 (iha n _ _ h.2.1 hna hl1 (by rw [← e]; omega))
    have i2 := opn b n (pre ++ [x] ++ a.flat) post h.2.2 hnb (by omega) hl2 (ihb n _ _ h.2.2 hnb hl2 (by rw [← e2]; omega))
    have ee := endS_tr h.2.1 (pre ++ [x]) (b.flat ++ post)
    rw [← e, hp1, hp2] at ee
    rw [← e, hp1] at i1
    rw [← e2] at i2
    have hs := showT_len a true h.2.1 hna
    have hs2 := showT_len b true h.2.2 hnb
    have sg := sign_m n (op := x.f_Op) (by omega)
    have en := rend_m (n + 1) (pre ++ ((Tr.bin x a b).flat ++ post)) ((pre.length + 1 : Nat) : Int) (by omega) (by omega)
    simp only [List.length_append, Tr.flat, List.length_cons, List.length_nil] at hl
    rw [m_ref02_show, g, Option.bind_some, wrap_one pre.length (by omega), en, ee]
    simp only [i1, i2, sg.2.1, Option.bind_some, beq_eq_false_iff_ne.2 (show x.f_Op ≠ 1 by omega), beq_eq_false_iff_ne.2 (show x.f_Op ≠ 2 by omega), beq_eq_false_iff_ne.2 (show x.f_Op ≠ 3 by omega), beq_eq_false_iff_ne.2 (show x.f_Op ≠ 4 by omega), beq_eq_false_iff_ne.2 (show x.f_Op ≠ 5 by omega), cond_false, cond_true]
    have sl := sg.2.2
    rw [bif_decide (by simp; omega), bif_decide (by simp; omega), bif_decide (by simp; omega), bif_decide (by simp; omega)]
    rfl
def isName (x : Nd) : Bool := x.f_Op == 2 || (x.f_Op == 3 || x.f_Op == 4)
theorem filter_list {α τ : Type} (l : List α) (p : α → Bool) (L : Nat → Nat → List α → Option (LR (List α) τ)) (h0 : ∀ k s, L (k + 1) l.length s = some (.out s))
    (h1 : ∀ k i x s, i < l.length → l[i]? = some x → s.length ≤ i → L (k + 1) i s = L k (i + 1) (bif p x then s ++ [x] else s)) {k : Nat} (hk : l.length < k) : L k 0 [] = some (.out (l.filter p)) := by
  have := loop_list0 l L (fun l s => some (.out (s ++ l.filter p))) (fun i s => s.length ≤ i) (s := []) hk (Nat.le_refl _) (fun k s _ => by rw [h0 k]; simp) ?_
  · rw [this]; rfl
  · intro k i s x hi hx hs ih
    rw [h1 k i x s hi hx hs]
    cases hp : p x with
    | true => rw [cond_true, ih _ (by simp; omega)]; simp [hp]
    | false => rw [cond_false, ih _ (by omega)]; simp [hp]
theorem names_m (n : Nat) (l : List Nd) (hl : l.length < 100000) (hn : l.length + 1 < n) : m_expr_Names n l = some (l.filter isName) := by
  obtain ⟨n, rfl⟩ : ∃ j, n = j + 1 := ⟨n - 1, by omega⟩
  have : expr_Names_L0 n l n 0 [] = some (.out (l.filter isName)) := by
    refine filter_list l isName (fun k i s => expr_Names_L0 n l k (i : Int) s) (fun k s => ?_) (fun k i x s hi hx hs => ?_) (by omega)
    · rw [expr_Names_L0, bif_not (by omega)]
    · rw [expr_Names_L0, bif_decide (by omega), idx_some hx, Option.bind_some, wrap_one i (by omega), bif_decide (show (s.length + 1) * 57 ≤ 140737488355328 by omega)]
      unfold isName
      cases (x.f_Op == 2) <;> cases (x.f_Op == 3) <;> cases (x.f_Op == 4) <;> rfl
  rw [m_expr_Names, this]; rfl
theorem rnames_m (n : Nat) (l : List Nd) (hl : l.length < 100000) (hn : l.length + 1 < n) : m_ref02_Names n l = some (l.filter isName) := by
  obtain ⟨n, rfl⟩ : ∃ j, n = j + 1 := ⟨n - 1, by omega⟩
  have : ref02_Names_L0 n l n 0 [] = some (.out (l.filter isName)) := by
    refine filter_list l isName (fun k i s => ref02_Names_L0 n l k (i : Int) s) (fun k s => ?_) (fun k i x s hi hx hs => ?_) (by omega)
    · rw [ref02_Names_L0, bif_not (by omega)]
    · rw [ref02_Names_L0, bif_decide (by omega), idx_some hx]
      simp only [Option.bind_some]
      rw [wrap_one i (by omega), bif_decide (show (s.length + 1) * 57 ≤ 140737488355328 by omega)]
      unfold isName
      cases (x.f_Op == 2) <;> cases (x.f_Op == 3) <;> cases (x.f_Op == 4) <;> rfl
  rw [m_ref02_Names, this]; rfl
theorem same02_refl (n : Nat) (a : List Nd) (p : Bool) (h : a.length < 1000000) (hn : a.length + 1 < n) : m_ref02_Same n a a p = some true := by
  obtain ⟨n, rfl⟩ : ∃ j, n = j + 1 := ⟨n - 1, by omega⟩
  have hL : ref02_Same_L0 n a a n p 0 = bif a.all (fun _ => true) then some (.out ()) else some (.ret false) := by
    refine all_list a (fun k i => ref02_Same_L0 n a a k p (i : Int)) _ (fun k => ?_) (fun k i x hi hx => ?_) (by omega)
    · rw [ref02_Same_L0, bif_not (by omega)]
    · rw [ref02_Same_L0, bif_decide (by omega), idx_some hx, wrap_one i (by omega)]
      cases p <;> simp
  have e : a.all (fun _ => true) = true := by simp
  rw [m_ref02_Same, hL, e]; simp
theorem exprOk_tree {l : List Nd} (h : exprOk l = true) : ∃ t : Tr, t.wf ∧ t.flat = l ∧ l.length ≤ 200 ∧ t.dep ≤ 30 ∧ 1 ≤ l.length ∧ l.all nodeOk = true ∧ (depF l (0, [])).1 = (t.dep : Int) := by
  simp only [exprOk, Bool.and_eq_true, decide_eq_true_eq] at h
  obtain ⟨h1, h2, h3, h4⟩ := h
  obtain ⟨t, t1, t2, _, _⟩ := of_endF1 h2
  rw [List.take_length] at t2
  have := depF_tr t [] 0 [] t1 (by omega)
  rw [List.append_nil, t2] at this
  have e : (depF l (0, [])).1 = (t.dep : Int) := by rw [this]; simp [depF]
  rw [e] at h4
  exact ⟨t, t1, t2, h1.2, by omega, h1.1, h3, e⟩
theorem known02 : m_law02_known 1999 = some true := by decide +kernel
theorem exprShows_m (l : List Nd) (i : Int) : m_law02_ExprShows 2000 l i = some true := by
  rw [m_law02_ExprShows, rlightE_m 1999 l (by omega), known02]
  simp only [Option.bind_some]
  cases hl : lightE l with
  | false => rfl
  | true =>
  have hl1 := hl
  simp only [lightE, Bool.and_eq_true, decide_eq_true_eq, List.all_eq_true] at hl1
  obtain ⟨hl2, hl3⟩ := hl1
  rw [cond_true, eright_m 1999 l (by omega) (by omega), rright_e 1999 l hl (by omega), end_m 1999 l i (by omega) (by omega), rend_m 1999 l i (by omega) (by omega), names_m 1999 l (by omega) (by omega), rnames_m 1999 l (by omega) (by omega)]
  have hfl : (l.filter isName).length ≤ l.length := List.length_filter_le _ _
  simp only [Option.bind_some, beq_self_eq_true, cond_true]
  rw [same02_refl 1999 _ _ (by omega) (by omega)]
  rw [m_expr_Depth, m_ref02_Depth, m_expr_Show, m_ref02_Show, eright_m 1998 l (by omega) (by omega), rright_e 1998 l hl (by omega)]
  simp only [Option.bind_some]
  cases he : exprOk l with
  | false => rfl
  | true =>
    obtain ⟨t, t1, t2, t3, t4, t5, t6, t7⟩ := exprOk_tree he
    have hno : NodesOk t.flat := by
      rw [t2]
      intro x hx
      have := hl3 x hx
      exact ⟨List.all_eq_true.1 t6 x hx, this.1, this.2⟩
    have hd := t.dep_lt
    have d1 : m_ref02_deep 1998 l 0 = some (t.dep : Int) := by
      have := deep_tr t 1998 [] [] t1 (by simp [t2]; omega) (by simp [t2]; omega)
      simpa [t2] using this
    have s1 : m_expr_shown 1998 l 0 false = some (showT t false, ((t.flat.length : Nat) : Int)) := by
      have := shown_tr t 1998 [] [] false t1 hno (by simp [t2]; omega) (by omega)
      simpa [t2] using this
    have s2 : m_ref02_show 1998 l 0 = some (showT t false) := by
      have := (rshow_tr t 1998 [] [] t1 hno (by simp [t2]; omega) (by simp [t2]; omega)).1
      simpa [t2] using this
    rw [depth_m2 1998 l (by omega) (by omega), t7, d1, s1, s2]
    simp
end Go.Proofs.Ytjobghbdfannfaa
end

section
namespace Go.Proofs.Ytjobghbdfannfaa
set_option linter.unusedVariables false
set_option linter.unusedSimpArgs false
set_option maxRecDepth 100000

set_option maxHeartbeats 4000000 in
theorem ok_expr_kids (n : Nat) : ∀ (v0_op : Int) (r : Int), m_expr_kids n v0_op = some r → callN Try.prog HH XT n 25 [AV.int .i64 (v0_op)] [] = some (AV.int .i64 (r), []) := by
  cases n with
  | zero => intro v0_op r hm; exact absurd hm (by intro h; cases h)
  | succ n =>
    intro v0_op r hm
    rw [m_expr_kids] at hm
    refine callN_eq' Try.func25 (by rfl) rfl rfl (Nat.le_of_ble_eq_true rfl) ?_
    intro call hc
    conv => lhs; whnf
    refine bif_or2 hm ?_ ?_ <;> clear hm <;> intro hc1 hm
    · simp only [hc1, ls]
      conv => lhs; whnf
      refine bif_or2 hm ?_ ?_ <;> clear hm <;> intro hc2 hm
      · simp only [hc2, ls]
        conv => lhs; whnf
        have hq := Option.some.inj hm; clear hm; subst hq
        try simp only [ls]
        exact fq (y := some (AV.int .i64 (0), []))
      · simp only [hc2, ls]
        conv => lhs; whnf
        refine bif_or2 hm ?_ ?_ <;> clear hm <;> intro hc3 hm
        · simp only [hc3, ls]
          conv => lhs; whnf
          have hq := Option.some.inj hm; clear hm; subst hq
          try simp only [ls]
          exact fq (y := some (AV.int .i64 (1), []))
        · simp only [hc3, ls]
          conv => lhs; whnf
          refine bif_or2 hm ?_ ?_ <;> clear hm <;> intro hc4 hm
          · simp only [hc4, ls]
            conv => lhs; whnf
            refine bif_or2 hm ?_ ?_ <;> clear hm <;> intro hc5 hm
            · simp only [hc5, ls]
              conv => lhs; whnf
              have hq := Option.some.inj hm; clear hm; subst hq
              try simp only [ls]
              exact fq (y := some (AV.int .i64 (2), []))
            · simp only [hc5, ls]
              conv => lhs; whnf
              have hq := Option.some.inj hm; clear hm; subst hq
              try simp only [ls]
              exact fq (y := some (AV.int .i64 ((-1)), []))
          · simp only [hc4, ls]
            conv => lhs; whnf
            have hq := Option.some.inj hm; clear hm; subst hq
            try simp only [ls]
            exact fq (y := some (AV.int .i64 ((-1)), []))
    · simp only [hc1, ls]
      conv => lhs; whnf
      refine bif_or2 hm ?_ ?_ <;> clear hm <;> intro hc6 hm
      · simp only [hc6, ls]
        conv => lhs; whnf
        have hq := Option.some.inj hm; clear hm; subst hq
        try simp only [ls]
        exact fq (y := some (AV.int .i64 (1), []))
      · simp only [hc6, ls]
        conv => lhs; whnf
        refine bif_or2 hm ?_ ?_ <;> clear hm <;> intro hc7 hm
        · simp only [hc7, ls]
          conv => lhs; whnf
          refine bif_or2 hm ?_ ?_ <;> clear hm <;> intro hc8 hm
          · simp only [hc8, ls]
            conv => lhs; whnf
            have hq := Option.some.inj hm; clear hm; subst hq
            try simp only [ls]
            exact fq (y := some (AV.int .i64 (2), []))
          · simp only [hc8, ls]
            conv => lhs; whnf
            have hq := Option.some.inj hm; clear hm; subst hq
            try simp only [ls]
            exact fq (y := some (AV.int .i64 ((-1)), []))
        · simp only [hc7, ls]
          conv => lhs; whnf
          have hq := Option.some.inj hm; clear hm; subst hq
          try simp only [ls]
          exact fq (y := some (AV.int .i64 ((-1)), []))

set_option maxHeartbeats 4000000 in
theorem ok_expr_End (n : Nat) : ∀ (v0_l : (List S_api_Node)) (v1_i : Int) (r : Int), m_expr_End n v0_l v1_i = some r → callN Try.prog HH XT n 12 [AV.sl 5 (List.map c_api_Node (v0_l)), AV.int .i64 (v1_i)] [] = some (AV.int .i64 (r), []) := by
  cases n with
  | zero => intro v0_l v1_i r hm; exact absurd hm (by intro h; cases h)
  | succ n =>
    intro v0_l v1_i r hm
    rw [m_expr_End] at hm
    refine callN_eq' Try.func12 (by rfl) rfl rfl (Nat.le_of_ble_eq_true rfl) ?_
    intro call hc
    conv => lhs; whnf
    refine bif_or2 hm ?_ ?_ <;> clear hm <;> intro hc1 hm
    · simp only [hc1, ls]
      conv => lhs; whnf
      have hq := Option.some.inj hm; clear hm; subst hq
      try simp only [ls]
      exact fq (y := some (AV.int .i64 ((-1)), []))
    · simp only [hc1, ls]
      conv => lhs; whnf
      refine bind_some2 hm ?_; clear hm; intro o11 ho11 hm
      refine rounds_sim (σ := (Int × Int)) (τ := Unit) (ν := Int) 0 (fun (s2, s3) a5 => stOf 31 [(0, AV.sl 5 (List.map c_api_Node (v0_l))), (1, AV.int .i64 (s2)), (5, AV.int .i64 (s3))]) (fun (s2, s3) a5 => []) (fun _ a18 => stOf 31 []) (fun _ a18 => []) (fun v => (AV.int .i64 (v), [])) (fun k s => expr_End_L0 n v0_l k ((s).1) ((s).2)) (fun s => rfl) o11 ?_ n (v1_i, 1) (fun _ => 0) _ _ ho11 ?_ (by first | rfl | (simp only [ls, List.map_append, List.map_cons, List.map_nil, List.append_nil, List.length_set, length_copyL] <;> rfl)) (by first | rfl | (simp only [ls, List.map_append, List.map_cons, List.map_nil, List.append_nil, List.length_set, length_copyL] <;> rfl))
      · intro k4 ss a5 K6 cont7 hK8 hcont9 hm hr10
        obtain ⟨s2, s3⟩ := ss
        replace hm : expr_End_L0 n v0_l (k4 + 1) s2 s3 = some o11 := hm
        rw [expr_End_L0] at hm
        conv => lhs; whnf
        refine bif_or2 hm ?_ ?_ <;> clear hm <;> intro hc12 hm
        · simp only [hc12, ls]
          conv => lhs; whnf
          refine bind_some2 hm ?_; clear hm; intro x13 hx13 hm
          refine bif_pos (by first | exact idx_in hx13 | exact idx_in' hx13) ?_
          simp only [idx_nth (f := c_api_Node) hx13, ls]
          conv => lhs; whnf
          refine bind_some2 hm ?_; clear hm; intro y14 hy14 hm
          have hk15 : call false 25 [AV.int .i64 (x13.f_Op)] [] = some (AV.int .i64 (y14), []) := (hc _ _ _).trans (ok_expr_kids n x13.f_Op y14 hy14)
          try simp only [List.drop_zero, ls]
          first | simp only [hk15] | rewrite [hk15]
          try simp only [ls]
          conv => lhs; whnf
          refine bif_or2 hm ?_ ?_ <;> clear hm <;> intro hc16 hm
          · simp only [hc16, ls]
            conv => lhs; whnf
            have hq := Option.some.inj hm; clear hm; subst hq
            refine (hK8 _ _).trans ?_
            refine Eq.trans ?_ (Eq.symm (show _ = some _ from hr10))
            conv => lhs; whnf
            try simp only [ls]
            exact fq (y := some (AV.int .i64 ((-1)), []))
          · simp only [hc16, ls]
            conv => lhs; whnf
            refine bif_or2 hm ?_ ?_ <;> clear hm <;> intro hc17 hm
            · simp only [hc17, ls]
              conv => lhs; whnf
              have hq := Option.some.inj hm; clear hm; subst hq
              refine (hK8 _ _).trans ?_
              refine Eq.trans ?_ (Eq.symm (show _ = some _ from hr10))
              conv => lhs; whnf
              try simp only [ls]
              exact fq (y := some (AV.int .i64 (IntKind.i64.wrap (s2 + 1)), []))
            · simp only [hc17, ls]
              conv => lhs; whnf
              exact cq (hcont9 (IntKind.i64.wrap (s2 + 1), IntKind.i64.wrap (s3 + (IntKind.i64.wrap (y14 - 1)))) (fun _ => 0) hm)
        · simp only [hc12, ls]
          conv => lhs; whnf
          have hq := Option.some.inj hm; clear hm; subst hq
          exact kq (hr10 (fun _ => 0))
      · cases o11 with
        | ret v =>
          have hq := Option.some.inj hm; clear hm; subst hq
          rfl
        | out t =>
          intro a18
          dsimp only at hm
          conv => lhs; whnf
          have hq := Option.some.inj hm; clear hm; subst hq
          try simp only [ls]
          exact fq (y := some (AV.int .i64 ((-1)), []))

set_option maxHeartbeats 4000000 in
theorem ok_expr_depth (n : Nat) : ∀ (v0_l : (List S_api_Node)) (r : Int), m_expr_depth n v0_l = some r → callN Try.prog HH XT n 22 [AV.sl 5 (List.map c_api_Node (v0_l))] [] = some (AV.int .i64 (r), []) := by
  cases n with
  | zero => intro v0_l r hm; exact absurd hm (by intro h; cases h)
  | succ n =>
    intro v0_l r hm
    rw [m_expr_depth] at hm
    refine callN_eq' Try.func22 (by rfl) rfl rfl (Nat.le_of_ble_eq_true rfl) ?_
    intro call hc
    conv => lhs; whnf
    refine bind_some2 hm ?_; clear hm; intro o11 ho11 hm
    refine rounds_sim (σ := (Int × Int × (List Int))) (τ := (Int × (List Int))) (ν := Int) 0 (fun (s1, s2, s3) a5 => stOf 50 [(3, AV.stk 0 (a5 0) (List.length (s3))), (4, AV.int .i64 (s1)), (9, AV.sl 5 (List.map c_api_Node (v0_l))), (10, AV.int .i64 ((((v0_l).length : Nat) : Int))), (11, AV.int .i64 (s2))]) (fun (s1, s2, s3) a5 => [Ob.stk (a5 0) 3 1 (List.map encI (s3))]) (fun (x41, x42) a40 => stOf 50 [(4, AV.int .i64 (x41))]) (fun (x41, x42) a40 => [Ob.stk (a40 0) 3 1 (List.map encI (x42))]) (fun v => (AV.int .i64 (v), [])) (fun k s => expr_depth_L0 n v0_l k ((s).1) ((s).2.1) ((s).2.2)) (fun s => rfl) o11 ?_ n (0, 0, ([] : List Int)) (fun j => (bif Nat.beq j 0 then 0 else 0)) _ _ ho11 ?_ (by first | rfl | (simp only [ls, List.map_append, List.map_cons, List.map_nil, List.append_nil, List.length_set, length_copyL] <;> rfl)) (by first | rfl | (simp only [ls, List.map_append, List.map_cons, List.map_nil, List.append_nil, List.length_set, length_copyL] <;> rfl))
    · intro k4 ss a5 K6 cont7 hK8 hcont9 hm hr10
      obtain ⟨s1, s2, s3⟩ := ss
      replace hm : expr_depth_L0 n v0_l (k4 + 1) s1 s2 s3 = some o11 := hm
      rw [expr_depth_L0] at hm
      conv => lhs; whnf
      refine bif_or2 hm ?_ ?_ <;> clear hm <;> intro hc12 hm
      · simp only [hc12, ls]
        conv => lhs; whnf
        refine bind_some2 hm ?_; clear hm; intro x13 hx13 hm
        refine bif_pos (by first | exact idx_in hx13 | exact idx_in' hx13) ?_
        simp only [idx_nth (f := c_api_Node) hx13, ls]
        conv => lhs; whnf
        refine bind_some2 hm ?_; clear hm; intro y14 hy14 hm
        have hk15 : call false 25 [AV.int .i64 (x13.f_Op)] [] = some (AV.int .i64 (y14), []) := (hc _ _ _).trans (ok_expr_kids n x13.f_Op y14 hy14)
        try simp only [List.drop_zero, ls]
        first | simp only [hk15] | rewrite [hk15]
        try simp only [ls]
        conv => lhs; whnf
        refine bif_or2 hm ?_ ?_ <;> clear hm <;> intro hc16 hm
        · simp only [hc16, ls]
          conv => lhs; whnf
          refine chk_some2 hm ?_; clear hm; intro hc19 hm
          try simp only [dec_self]
          conv => lhs; whnf
          refine bif_pos (app_row hc19 (by first | rfl | simp only [List.length_map]) (by first | rfl | simp only [List.length_map]) (by first | rfl | simp only [List.length_map, take_map_len]) (by kernel_rfl)) ?_
          try simp only [lt]
          have hp17 : (List.map encI (s3) : List (List AV)) ++ [[AV.int .i64 (y14)]] = List.map encI (s3 ++ ([y14] : List Int)) := by first | rfl | (rw [List.map_append]; rfl) | (rw [List.map_append]; done) | (simp only [List.map_append, List.map_cons, List.map_nil, List.nil_append, encI] <;> rfl)
          have hl18 : List.length (List.map encI (s3) : List (List AV)) + List.length ([[AV.int .i64 (y14)]] : List (List AV)) = List.length (s3 ++ ([y14] : List Int)) := by simp only [List.length_map, List.length_append] <;> rfl
          have hl18_b : List.length s3 + List.length ([[AV.int .i64 (y14)]] : List (List AV)) = List.length (s3 ++ ([y14] : List Int)) := by simp only [List.length_map, List.length_append] <;> rfl
          have hl18_c : List.length s3 + List.length ([y14] : List Int) = List.length (s3 ++ ([y14] : List Int)) := by simp only [List.length_map, List.length_append] <;> rfl
          first | simp only [hp17, hl18] | (simp only [List.length_map, take_map_len]; simp only [hp17, hl18_b, hl18_c])
          try simp only [ls]
          conv => lhs; whnf
          exact cq (hcont9 ((if s1 < (((s3).length : Nat) : Int) then (((s3).length : Nat) : Int) else s1), IntKind.i64.wrap (s2 + 1), (s3 ++ ([y14] : List Int))) (fun j => (bif Nat.beq j 0 then ((a5 0) + 1) else 0)) hm)
        · simp only [hc16, ls]
          conv => lhs; whnf
          refine bind_some2 hm ?_; clear hm; intro o28 ho28 hm
          refine rounds_sim (σ := (List Int)) (τ := (List Int)) (ν := Int) 2 (fun s20 a22 => stOf 50 [(3, AV.stk 0 (a22 0) (List.length (s20))), (4, AV.int .i64 ((if s1 < (((s3).length : Nat) : Int) then (((s3).length : Nat) : Int) else s1))), (9, AV.sl 5 (List.map c_api_Node (v0_l))), (10, AV.int .i64 ((((v0_l).length : Nat) : Int))), (11, AV.int .i64 (s2))]) (fun s20 a22 => [Ob.stk (a22 0) 3 1 (List.map encI (s20)), Ob.var 32 [AV.int .i64 (x13.f_Op), AV.int .i64 (x13.f_N), AV.str (x13.f_Name), AV.str (x13.f_In), AV.int .i64 (x13.f_At)]]) (fun x38 a37 => stOf 50 [(3, AV.stk 0 (a37 0) (List.length (x38))), (4, AV.int .i64 ((if s1 < (((s3).length : Nat) : Int) then (((s3).length : Nat) : Int) else s1))), (9, AV.sl 5 (List.map c_api_Node (v0_l))), (10, AV.int .i64 ((((v0_l).length : Nat) : Int))), (11, AV.int .i64 (s2))]) (fun x38 a37 => [Ob.stk (a37 0) 3 1 (List.map encI (x38)), Ob.var 32 [AV.int .i64 (x13.f_Op), AV.int .i64 (x13.f_N), AV.str (x13.f_Name), AV.str (x13.f_In), AV.int .i64 (x13.f_At)]]) (fun v => (AV.int .i64 (v), [])) (fun k s => expr_depth_L1 n k s) (fun s => rfl) o28 ?_ n s3 (fun j => (bif Nat.beq j 0 then (a5 0) else 0)) _ _ ho28 ?_ (by first | rfl | (simp only [ls, List.map_append, List.map_cons, List.map_nil, List.append_nil, List.length_set, length_copyL] <;> rfl)) (by first | rfl | (simp only [ls, List.map_append, List.map_cons, List.map_nil, List.append_nil, List.length_set, length_copyL] <;> rfl))
          · intro k21 ss a22 K23 cont24 hK25 hcont26 hm hr27
            obtain ⟨s20, rfl⟩ : ∃ x, x = ss := ⟨_, rfl⟩
            replace hm : expr_depth_L1 n (k21 + 1) s20 = some o28 := hm
            rw [expr_depth_L1] at hm
            conv => lhs; whnf
            refine bif_or2 hm ?_ ?_ <;> clear hm <;> intro hc29 hm
            · simp only [hc29, ls]
              conv => lhs; whnf
              refine bind_some2 hm ?_; clear hm; intro x30 hx30 hm
              try simp only [dec_self]
              conv => lhs; whnf
              try simp only [ls]
              refine bif_pos (by first | exact idx_in hx30 | exact idx_in' hx30 | exact own_in hx30 | exact own_in' hx30 | (have q := idx_in hx30; simp only [List.length_set] at q; exact q) | (have q := own_in' hx30; simp only [List.length_set, Nat.zero_add] at q ⊢; exact q)) ?_
              conv => lhs; whnf
              try simp only [idx_nth (f := encI) hx30, dec_self, ls]
              conv => lhs; whnf
              refine bind_some2 hm ?_; clear hm; intro x31 hx31 hm
              try simp only [dec_self]
              conv => lhs; whnf
              try simp only [ls]
              refine bif_pos (by first | exact idx_in hx31 | exact idx_in' hx31 | exact own_in hx31 | exact own_in' hx31 | (have q := idx_in hx31; simp only [List.length_set] at q; exact q) | (have q := own_in' hx31; simp only [List.length_set, Nat.zero_add] at q ⊢; exact q)) ?_
              conv => lhs; whnf
              try simp only [idx_nth (f := encI) hx31, dec_self, ls]
              conv => lhs; whnf
              have hs32 : setNth (List.map encI s20) (IntKind.i64.wrap ((((s20).length : Nat) : Int) - 1)).toNat [AV.int .i64 (IntKind.i64.wrap (x30 - 1))] = List.map encI (List.set s20 (IntKind.i64.wrap ((((s20).length : Nat) : Int) - 1)).toNat (IntKind.i64.wrap (x30 - 1))) := by rw [setNth_eq, List.map_set]; rfl
              have hs32_u : setNth (List.map encI s20) (IntKind.i64.wrap ((((s20).length : Nat) : Int) - 1)).toNat (updL (encI x31) 0 [AV.int .i64 (IntKind.i64.wrap (x30 - 1))]) = List.map encI (List.set s20 (IntKind.i64.wrap ((((s20).length : Nat) : Int) - 1)).toNat (IntKind.i64.wrap (x30 - 1))) := by rw [setNth_eq, List.map_set]; rfl
              try simp only [idx_nth (f := encI) hx31, dec_self]
              conv => lhs; whnf
              try simp only [hs32, hs32_u, dec_self]
              conv => lhs; whnf
              refine bind_some2 hm ?_; clear hm; intro x33 hx33 hm
              try simp only [dec_self]
              conv => lhs; whnf
              try simp only [ls]
              refine bif_pos (by first | exact idx_in hx33 | exact idx_in' hx33 | exact own_in hx33 | exact own_in' hx33 | (have q := idx_in hx33; simp only [List.length_set] at q; exact q) | (have q := own_in' hx33; simp only [List.length_set, Nat.zero_add] at q ⊢; exact q)) ?_
              conv => lhs; whnf
              try simp only [idx_nth (f := encI) hx33, dec_self, ls]
              conv => lhs; whnf
              refine bif_or2 hm ?_ ?_ <;> clear hm <;> intro hc34 hm
              · simp only [hc34, ls]
                conv => lhs; whnf
                have hq := Option.some.inj hm; clear hm; subst hq
                exact kq (hr27 (fun j => (bif Nat.beq j 0 then (a22 0) else 0)))
              · simp only [hc34, ls]
                conv => lhs; whnf
                refine chk_some2 hm ?_; clear hm; intro hc36 hm
                try simp only [dec_self]
                conv => lhs; whnf
                try simp only [ls]
                first | refine bif_pos hc36 ?_ | (refine bif_pos (by have q := hc36; simp only [List.length_set] at q; exact q) ?_)
                have hs35 : List.take ((IntKind.i64.wrap ((((s20).length : Nat) : Int) - 1)).toNat) (List.map encI (List.set s20 (IntKind.i64.wrap ((((s20).length : Nat) : Int) - 1)).toNat (IntKind.i64.wrap (x30 - 1)))) = List.map encI (List.take ((IntKind.i64.wrap ((((s20).length : Nat) : Int) - 1)).toNat) (List.set s20 (IntKind.i64.wrap ((((s20).length : Nat) : Int) - 1)).toNat (IntKind.i64.wrap (x30 - 1)))) := by rw [List.map_take]
                have hs35_l : List.length (List.take ((IntKind.i64.wrap ((((s20).length : Nat) : Int) - 1)).toNat) (List.set s20 (IntKind.i64.wrap ((((s20).length : Nat) : Int) - 1)).toNat (IntKind.i64.wrap (x30 - 1)))) = (IntKind.i64.wrap ((((s20).length : Nat) : Int) - 1)).toNat := by simp only [List.length_take]; exact Nat.min_eq_left (cut_le hc36)
                conv => lhs; whnf
                try simp only [dec_self, hs35]
                conv => lhs; whnf
                try simp only [hs35]
                have hs35_s : ∀ q, AV.stk 0 q ((IntKind.i64.wrap ((((s20).length : Nat) : Int) - 1)).toNat) = AV.stk 0 q (List.length (List.take ((IntKind.i64.wrap ((((s20).length : Nat) : Int) - 1)).toNat) (List.set s20 (IntKind.i64.wrap ((((s20).length : Nat) : Int) - 1)).toNat (IntKind.i64.wrap (x30 - 1))))) := fun q => by rw [hs35_l]
                try simp only [hs35_s]
                conv => lhs; whnf
                exact cq (hcont26 (List.take ((IntKind.i64.wrap ((((s20).length : Nat) : Int) - 1)).toNat) (List.set s20 (IntKind.i64.wrap ((((s20).length : Nat) : Int) - 1)).toNat (IntKind.i64.wrap (x30 - 1)))) (fun j => (bif Nat.beq j 0 then ((a22 0) + 1) else 0)) hm)
            · simp only [hc29, ls]
              conv => lhs; whnf
              have hq := Option.some.inj hm; clear hm; subst hq
              exact kq (hr27 (fun j => (bif Nat.beq j 0 then (a22 0) else 0)))
          · cases o28 with
            | ret v =>
              have hq := Option.some.inj hm; clear hm; subst hq
              exact hr10
            | out t =>
              obtain ⟨x38, rfl⟩ : ∃ x, x = t := ⟨_, rfl⟩
              intro a37
              dsimp only at hm
              conv => lhs; whnf
              exact cq (hcont9 ((if s1 < (((s3).length : Nat) : Int) then (((s3).length : Nat) : Int) else s1), IntKind.i64.wrap (s2 + 1), x38) (fun j => (bif Nat.beq j 0 then (a37 0) else 0)) hm)
      · simp only [hc12, ls]
        conv => lhs; whnf
        have hq := Option.some.inj hm; clear hm; subst hq
        exact kq (hr10 (fun j => (bif Nat.beq j 0 then (a5 0) else 0)))
    · cases o11 with
      | ret v =>
        have hq := Option.some.inj hm; clear hm; subst hq
        rfl
      | out t =>
        obtain ⟨x41, x42⟩ := t
        intro a40
        dsimp only at hm
        conv => lhs; whnf
        have hq := Option.some.inj hm; clear hm; subst hq
        try simp only [ls]
        exact fq (y := some (AV.int .i64 (x41), []))

set_option maxHeartbeats 4000000 in
theorem ok_expr_fits (n : Nat) : ∀ (v0_x : S_api_Node) (r : Bool), m_expr_fits n v0_x = some r → callN Try.prog HH XT n 21 [AV.agg [AV.int .i64 (v0_x.f_Op), AV.int .i64 (v0_x.f_N), AV.str (v0_x.f_Name), AV.str (v0_x.f_In), AV.int .i64 (v0_x.f_At)]] [] = some (AV.bool (r), []) := by
  cases n with
  | zero => intro v0_x r hm; exact absurd hm (by intro h; cases h)
  | succ n =>
    intro v0_x r hm
    rw [m_expr_fits] at hm
    refine callN_eq' Try.func21 (by rfl) rfl rfl (Nat.le_of_ble_eq_true rfl) ?_
    intro call hc
    conv => lhs; whnf
    refine bif_or2 hm ?_ ?_ <;> clear hm <;> intro hc1 hm
    · simp only [hc1, ls]
      conv => lhs; whnf
      have hq := Option.some.inj hm; clear hm; subst hq
      try simp only [ls]
      exact fq (y := some (AV.bool (false), []))
    · simp only [hc1, ls]
      conv => lhs; whnf
      refine bif_or2 hm ?_ ?_ <;> clear hm <;> intro hc2 hm
      · simp only [hc2, ls]
        conv => lhs; whnf
        have hf5 : flatT Try.prog 32 = some (fieldsOf Try.prog 32) := by kernel_rfl
        simp only [hf5, List.length_map, take_map_len]
        conv => lhs; whnf
        refine bif_or2 hm ?_ ?_ <;> clear hm <;> intro hc3 hm
        · simp only [hc3, ls]
          conv => lhs; whnf
          refine bif_or2 hm ?_ ?_ <;> clear hm <;> intro hc4 hm
          · simp only [hc4, ls]
            conv => lhs; whnf
            have hq := Option.some.inj hm; clear hm; subst hq
            try simp only [ls]
            exact fq (y := some (AV.bool (decide (v0_x.f_N ≤ 9999)), []))
          · simp only [hc4, ls]
            conv => lhs; whnf
            have hq := Option.some.inj hm; clear hm; subst hq
            try simp only [ls]
            exact fq (y := some (AV.bool (false), []))
        · simp only [hc3, ls]
          conv => lhs; whnf
          have hq := Option.some.inj hm; clear hm; subst hq
          try simp only [ls]
          exact fq (y := some (AV.bool (false), []))
      · simp only [hc2, ls]
        conv => lhs; whnf
        refine bif_or2 hm ?_ ?_ <;> clear hm <;> intro hc6 hm
        · simp only [hc6, ls]
          conv => lhs; whnf
          refine bind_some2 hm ?_; clear hm; intro y7 hy7 hm
          have hk8 : call false 31 [AV.str (v0_x.f_In)] [] = some (AV.bool (y7), []) := (hc _ _ _).trans (ok_scan_Name n v0_x.f_In y7 hy7)
          try simp only [List.drop_zero, ls]
          first | simp only [hk8] | rewrite [hk8]
          try simp only [ls]
          conv => lhs; whnf
          refine bif_or2 hm ?_ ?_ <;> clear hm <;> intro hc9 hm
          · simp only [hc9, ls]
            conv => lhs; whnf
            have hf13 : flatT Try.prog 32 = some (fieldsOf Try.prog 32) := by kernel_rfl
            simp only [hf13, List.length_map, take_map_len]
            conv => lhs; whnf
            refine bif_or2 hm ?_ ?_ <;> clear hm <;> intro hc10 hm
            · simp only [hc10, ls]
              conv => lhs; whnf
              refine bind_some2 hm ?_; clear hm; intro y11 hy11 hm
              have hk12 : call false 31 [AV.str (v0_x.f_Name)] [] = some (AV.bool (y11), []) := (hc _ _ _).trans (ok_scan_Name n v0_x.f_Name y11 hy11)
              try simp only [List.drop_zero, ls]
              first | simp only [hk12] | rewrite [hk12]
              try simp only [ls]
              conv => lhs; whnf
              have hq := Option.some.inj hm; clear hm; subst hq
              try simp only [ls]
              exact fq (y := some (AV.bool (y11), []))
            · simp only [hc10, ls]
              conv => lhs; whnf
              have hq := Option.some.inj hm; clear hm; subst hq
              try simp only [ls]
              exact fq (y := some (AV.bool (false), []))
          · simp only [hc9, ls]
            conv => lhs; whnf
            have hq := Option.some.inj hm; clear hm; subst hq
            try simp only [ls]
            exact fq (y := some (AV.bool (false), []))
        · simp only [hc6, ls]
          conv => lhs; whnf
          refine bif_or2 hm ?_ ?_ <;> clear hm <;> intro hc14 hm
          · simp only [hc14, ls]
            conv => lhs; whnf
            have hf18 : flatT Try.prog 32 = some (fieldsOf Try.prog 32) := by kernel_rfl
            simp only [hf18, List.length_map, take_map_len]
            conv => lhs; whnf
            refine bif_or2 hm ?_ ?_ <;> clear hm <;> intro hc15 hm
            · simp only [hc15, ls]
              conv => lhs; whnf
              refine bind_some2 hm ?_; clear hm; intro y16 hy16 hm
              have hk17 : call false 31 [AV.str (v0_x.f_Name)] [] = some (AV.bool (y16), []) := (hc _ _ _).trans (ok_scan_Name n v0_x.f_Name y16 hy16)
              try simp only [List.drop_zero, ls]
              first | simp only [hk17] | rewrite [hk17]
              try simp only [ls]
              conv => lhs; whnf
              have hq := Option.some.inj hm; clear hm; subst hq
              try simp only [ls]
              exact fq (y := some (AV.bool (y16), []))
            · simp only [hc15, ls]
              conv => lhs; whnf
              have hq := Option.some.inj hm; clear hm; subst hq
              try simp only [ls]
              exact fq (y := some (AV.bool (false), []))
          · simp only [hc14, ls]
            conv => lhs; whnf
            refine bif_or2 hm ?_ ?_ <;> clear hm <;> intro hc19 hm
            · simp only [hc19, ls]
              conv => lhs; whnf
              have hf23 : flatT Try.prog 32 = some (fieldsOf Try.prog 32) := by kernel_rfl
              simp only [hf23, List.length_map, take_map_len]
              conv => lhs; whnf
              refine bif_or2 hm ?_ ?_ <;> clear hm <;> intro hc20 hm
              · simp only [hc20, ls]
                conv => lhs; whnf
                refine bind_some2 hm ?_; clear hm; intro y21 hy21 hm
                have hk22 : call false 31 [AV.str (v0_x.f_Name)] [] = some (AV.bool (y21), []) := (hc _ _ _).trans (ok_scan_Name n v0_x.f_Name y21 hy21)
                try simp only [List.drop_zero, ls]
                first | simp only [hk22] | rewrite [hk22]
                try simp only [ls]
                conv => lhs; whnf
                have hq := Option.some.inj hm; clear hm; subst hq
                try simp only [ls]
                exact fq (y := some (AV.bool (y21), []))
              · simp only [hc20, ls]
                conv => lhs; whnf
                have hq := Option.some.inj hm; clear hm; subst hq
                try simp only [ls]
                exact fq (y := some (AV.bool (false), []))
            · simp only [hc19, ls]
              conv => lhs; whnf
              have hf24 : flatT Try.prog 32 = some (fieldsOf Try.prog 32) := by kernel_rfl
              simp only [hf24, List.length_map, take_map_len]
              conv => lhs; whnf
              have hq := Option.some.inj hm; clear hm; subst hq
              try simp only [ls]
              exact fq (y := some (AV.bool (((v0_x.f_Op == v0_x.f_Op) && ((v0_x.f_N == 0) && ((v0_x.f_Name == ([] : List UInt8)) && ((v0_x.f_In == ([] : List UInt8)) && ((v0_x.f_At == v0_x.f_At) && true)))))), []))

set_option maxHeartbeats 4000000 in
theorem ok_expr_Right (n : Nat) : ∀ (v0_l : (List S_api_Node)) (r : Bool), m_expr_Right n v0_l = some r → callN Try.prog HH XT n 8 [AV.sl 5 (List.map c_api_Node (v0_l))] [] = some (AV.bool (r), []) := by
  cases n with
  | zero => intro v0_l r hm; exact absurd hm (by intro h; cases h)
  | succ n =>
    intro v0_l r hm
    rw [m_expr_Right] at hm
    refine callN_eq' Try.func8 (by rfl) rfl rfl (Nat.le_of_ble_eq_true rfl) ?_
    intro call hc
    conv => lhs; whnf
    refine bif_or2 hm ?_ ?_ <;> clear hm <;> intro hc1 hm
    · simp only [hc1, ls]
      conv => lhs; whnf
      have hq := Option.some.inj hm; clear hm; subst hq
      try simp only [ls]
      exact fq (y := some (AV.bool (false), []))
    · simp only [hc1, ls]
      conv => lhs; whnf
      refine bif_or2 hm ?_ ?_ <;> clear hm <;> intro hc2 hm
      · simp only [hc2, ls]
        conv => lhs; whnf
        have hq := Option.some.inj hm; clear hm; subst hq
        try simp only [ls]
        exact fq (y := some (AV.bool (false), []))
      · simp only [hc2, ls]
        conv => lhs; whnf
        refine bind_some2 hm ?_; clear hm; intro y3 hy3 hm
        have hk4 : call false 12 [AV.sl 5 (List.map c_api_Node (v0_l)), AV.int .i64 (0)] [] = some (AV.int .i64 (y3), []) := (hc _ _ _).trans (ok_expr_End n v0_l 0 y3 hy3)
        try simp only [List.drop_zero, ls]
        first | simp only [hk4] | rewrite [hk4]
        try simp only [ls]
        conv => lhs; whnf
        refine bif_or2 hm ?_ ?_ <;> clear hm <;> intro hc5 hm
        · simp only [hc5, ls]
          conv => lhs; whnf
          have hq := Option.some.inj hm; clear hm; subst hq
          try simp only [ls]
          exact fq (y := some (AV.bool (false), []))
        · simp only [hc5, ls]
          conv => lhs; whnf
          refine bind_some2 hm ?_; clear hm; intro o14 ho14 hm
          refine rounds_sim (σ := Int) (τ := Unit) (ν := Bool) 0 (fun s6 a8 => stOf 33 [(0, AV.sl 5 (List.map c_api_Node (v0_l))), (20, AV.sl 5 (List.map c_api_Node (v0_l))), (21, AV.int .i64 ((((v0_l).length : Nat) : Int))), (22, AV.int .i64 (s6))]) (fun s6 a8 => []) (fun _ a20 => stOf 33 [(0, AV.sl 5 (List.map c_api_Node (v0_l)))]) (fun _ a20 => []) (fun v => (AV.bool (v), [])) (fun k s => expr_Right_L0 n v0_l k s) (fun s => rfl) o14 ?_ n 0 (fun _ => 0) _ _ ho14 ?_ (by first | rfl | (simp only [ls, List.map_append, List.map_cons, List.map_nil, List.append_nil, List.length_set, length_copyL] <;> rfl)) (by first | rfl | (simp only [ls, List.map_append, List.map_cons, List.map_nil, List.append_nil, List.length_set, length_copyL] <;> rfl))
          · intro k7 ss a8 K9 cont10 hK11 hcont12 hm hr13
            obtain ⟨s6, rfl⟩ : ∃ x, x = ss := ⟨_, rfl⟩
            replace hm : expr_Right_L0 n v0_l (k7 + 1) s6 = some o14 := hm
            rw [expr_Right_L0] at hm
            conv => lhs; whnf
            refine bif_or2 hm ?_ ?_ <;> clear hm <;> intro hc15 hm
            · simp only [hc15, ls]
              conv => lhs; whnf
              refine bind_some2 hm ?_; clear hm; intro x16 hx16 hm
              refine bif_pos (by first | exact idx_in hx16 | exact idx_in' hx16) ?_
              simp only [idx_nth (f := c_api_Node) hx16, ls]
              conv => lhs; whnf
              refine bind_some2 hm ?_; clear hm; intro y17 hy17 hm
              have hk18 : call false 21 [AV.agg [AV.int .i64 (x16.f_Op), AV.int .i64 (x16.f_N), AV.str (x16.f_Name), AV.str (x16.f_In), AV.int .i64 (x16.f_At)]] [] = some (AV.bool (y17), []) := (hc _ _ _).trans (ok_expr_fits n x16 y17 hy17)
              try simp only [List.drop_zero, ls]
              first | simp only [hk18] | rewrite [hk18]
              try simp only [ls]
              conv => lhs; whnf
              refine bif_or2 hm ?_ ?_ <;> clear hm <;> intro hc19 hm
              · simp only [hc19, ls]
                conv => lhs; whnf
                exact cq (hcont12 (IntKind.i64.wrap (s6 + 1)) (fun _ => 0) hm)
              · simp only [hc19, ls]
                conv => lhs; whnf
                have hq := Option.some.inj hm; clear hm; subst hq
                refine (hK11 _ _).trans ?_
                refine Eq.trans ?_ (Eq.symm (show _ = some _ from hr13))
                conv => lhs; whnf
                try simp only [ls]
                exact fq (y := some (AV.bool (false), []))
            · simp only [hc15, ls]
              conv => lhs; whnf
              have hq := Option.some.inj hm; clear hm; subst hq
              exact kq (hr13 (fun _ => 0))
          · cases o14 with
            | ret v =>
              have hq := Option.some.inj hm; clear hm; subst hq
              rfl
            | out t =>
              intro a20
              dsimp only at hm
              conv => lhs; whnf
              refine bind_some2 hm ?_; clear hm; intro y21 hy21 hm
              have hk22 : call false 22 [AV.sl 5 (List.map c_api_Node (v0_l))] [] = some (AV.int .i64 (y21), []) := (hc _ _ _).trans (ok_expr_depth n v0_l y21 hy21)
              try simp only [List.drop_zero, ls]
              first | simp only [hk22] | rewrite [hk22]
              try simp only [ls]
              conv => lhs; whnf
              have hq := Option.some.inj hm; clear hm; subst hq
              try simp only [ls]
              exact fq (y := some (AV.bool (decide (y21 ≤ 30)), []))

set_option maxHeartbeats 4000000 in
theorem ok_expr_Depth (n : Nat) : ∀ (v0_l : (List S_api_Node)) (r : Int), m_expr_Depth n v0_l = some r → callN Try.prog HH XT n 10 [AV.sl 5 (List.map c_api_Node (v0_l))] [] = some (AV.int .i64 (r), []) := by
  cases n with
  | zero => intro v0_l r hm; exact absurd hm (by intro h; cases h)
  | succ n =>
    intro v0_l r hm
    rw [m_expr_Depth] at hm
    refine callN_eq' Try.func10 (by rfl) rfl rfl (Nat.le_of_ble_eq_true rfl) ?_
    intro call hc
    conv => lhs; whnf
    refine bind_some2 hm ?_; clear hm; intro y1 hy1 hm
    have hk2 : call false 8 [AV.sl 5 (List.map c_api_Node (v0_l))] [] = some (AV.bool (y1), []) := (hc _ _ _).trans (ok_expr_Right n v0_l y1 hy1)
    try simp only [List.drop_zero, ls]
    first | simp only [hk2] | rewrite [hk2]
    try simp only [ls]
    conv => lhs; whnf
    refine bif_or2 hm ?_ ?_ <;> clear hm <;> intro hc3 hm
    · simp only [hc3, ls]
      conv => lhs; whnf
      refine bind_some2 hm ?_; clear hm; intro y4 hy4 hm
      have hk5 : call false 22 [AV.sl 5 (List.map c_api_Node (v0_l))] [] = some (AV.int .i64 (y4), []) := (hc _ _ _).trans (ok_expr_depth n v0_l y4 hy4)
      try simp only [List.drop_zero, ls]
      first | simp only [hk5] | rewrite [hk5]
      try simp only [ls]
      conv => lhs; whnf
      have hq := Option.some.inj hm; clear hm; subst hq
      try simp only [ls]
      exact fq (y := some (AV.int .i64 (y4), []))
    · simp only [hc3, ls]
      conv => lhs; whnf
      have hq := Option.some.inj hm; clear hm; subst hq
      try simp only [ls]
      exact fq (y := some (AV.int .i64 ((-1)), []))

set_option maxHeartbeats 4000000 in
theorem ok_expr_Names (n : Nat) : ∀ (v0_l : (List S_api_Node)) (r : (List S_api_Node)), m_expr_Names n v0_l = some r → callN Try.prog HH XT n 17 [AV.sl 5 (List.map c_api_Node (v0_l))] [] = some (AV.sl 5 (List.map c_api_Node (r)), []) := by
  cases n with
  | zero => intro v0_l r hm; exact absurd hm (by intro h; cases h)
  | succ n =>
    intro v0_l r hm
    rw [m_expr_Names] at hm
    refine callN_eq' Try.func17 (by rfl) rfl rfl (Nat.le_of_ble_eq_true rfl) ?_
    intro call hc
    conv => lhs; whnf
    refine bind_some2 hm ?_; clear hm; intro o10 ho10 hm
    refine rounds_sim (σ := (Int × (List S_api_Node))) (τ := (List S_api_Node)) (ν := (List S_api_Node)) 0 (fun (s1, s2) a4 => stOf 24 [(3, AV.row 0 (List.length (s2))), (6, AV.sl 5 (List.map c_api_Node (v0_l))), (7, AV.int .i64 ((((v0_l).length : Nat) : Int))), (8, AV.int .i64 (s1))]) (fun (s1, s2) a4 => [Ob.row 32 5 (List.map c_api_Node (s2))]) (fun x26 a25 => stOf 24 [(3, AV.row 0 (List.length (x26)))]) (fun x26 a25 => [Ob.row 32 5 (List.map c_api_Node (x26))]) (fun v => (AV.sl 5 (List.map c_api_Node (v)), [])) (fun k s => expr_Names_L0 n v0_l k ((s).1) ((s).2)) (fun s => rfl) o10 ?_ n (0, ([] : List S_api_Node)) (fun _ => 0) _ _ ho10 ?_ (by first | rfl | (simp only [ls, List.map_append, List.map_cons, List.map_nil, List.append_nil, List.length_set, length_copyL] <;> rfl)) (by first | rfl | (simp only [ls, List.map_append, List.map_cons, List.map_nil, List.append_nil, List.length_set, length_copyL] <;> rfl))
    · intro k3 ss a4 K5 cont6 hK7 hcont8 hm hr9
      obtain ⟨s1, s2⟩ := ss
      replace hm : expr_Names_L0 n v0_l (k3 + 1) s1 s2 = some o10 := hm
      rw [expr_Names_L0] at hm
      conv => lhs; whnf
      refine bif_or2 hm ?_ ?_ <;> clear hm <;> intro hc11 hm
      · simp only [hc11, ls]
        conv => lhs; whnf
        refine bind_some2 hm ?_; clear hm; intro x12 hx12 hm
        refine bif_pos (by first | exact idx_in hx12 | exact idx_in' hx12) ?_
        simp only [idx_nth (f := c_api_Node) hx12, ls]
        conv => lhs; whnf
        refine bif_or2 hm ?_ ?_ <;> clear hm <;> intro hc13 hm
        · simp only [hc13, ls]
          conv => lhs; whnf
          refine chk_some2 hm ?_; clear hm; intro hc16 hm
          refine bif_pos (app_row hc16 (by first | rfl | simp only [List.length_map]) (by first | rfl | simp only [List.length_map]) (by first | rfl | simp only [List.length_map, take_map_len]) (by kernel_rfl)) ?_
          try simp only [lt]
          have hp14 : (List.map c_api_Node (s2) : List (List AV)) ++ [[AV.int .i64 (x12.f_Op), AV.int .i64 (x12.f_N), AV.str (x12.f_Name), AV.str (x12.f_In), AV.int .i64 (x12.f_At)]] = List.map c_api_Node (s2 ++ ([x12] : List S_api_Node)) := by first | rfl | (rw [List.map_append]; rfl) | (rw [List.map_append]; done) | (simp only [List.map_append, List.map_cons, List.map_nil, List.nil_append, c_api_Node] <;> rfl)
          have hl15 : List.length (List.map c_api_Node (s2) : List (List AV)) + List.length ([[AV.int .i64 (x12.f_Op), AV.int .i64 (x12.f_N), AV.str (x12.f_Name), AV.str (x12.f_In), AV.int .i64 (x12.f_At)]] : List (List AV)) = List.length (s2 ++ ([x12] : List S_api_Node)) := by simp only [List.length_map, List.length_append] <;> rfl
          have hl15_b : List.length s2 + List.length ([[AV.int .i64 (x12.f_Op), AV.int .i64 (x12.f_N), AV.str (x12.f_Name), AV.str (x12.f_In), AV.int .i64 (x12.f_At)]] : List (List AV)) = List.length (s2 ++ ([x12] : List S_api_Node)) := by simp only [List.length_map, List.length_append] <;> rfl
          have hl15_c : List.length s2 + List.length ([x12] : List S_api_Node) = List.length (s2 ++ ([x12] : List S_api_Node)) := by simp only [List.length_map, List.length_append] <;> rfl
          first | simp only [hp14, hl15] | (simp only [List.length_map, take_map_len]; simp only [hp14, hl15_b, hl15_c])
          try simp only [ls]
          conv => lhs; whnf
          exact cq (hcont8 (IntKind.i64.wrap (s1 + 1), (s2 ++ ([x12] : List S_api_Node))) (fun _ => 0) hm)
        · simp only [hc13, ls]
          conv => lhs; whnf
          refine bif_or2 hm ?_ ?_ <;> clear hm <;> intro hc17 hm
          · simp only [hc17, ls]
            conv => lhs; whnf
            refine chk_some2 hm ?_; clear hm; intro hc20 hm
            refine bif_pos (app_row hc20 (by first | rfl | simp only [List.length_map]) (by first | rfl | simp only [List.length_map]) (by first | rfl | simp only [List.length_map, take_map_len]) (by kernel_rfl)) ?_
            try simp only [lt]
            have hp18 : (List.map c_api_Node (s2) : List (List AV)) ++ [[AV.int .i64 (x12.f_Op), AV.int .i64 (x12.f_N), AV.str (x12.f_Name), AV.str (x12.f_In), AV.int .i64 (x12.f_At)]] = List.map c_api_Node (s2 ++ ([x12] : List S_api_Node)) := by first | rfl | (rw [List.map_append]; rfl) | (rw [List.map_append]; done) | (simp only [List.map_append, List.map_cons, List.map_nil, List.nil_append, c_api_Node] <;> rfl)
            have hl19 : List.length (List.map c_api_Node (s2) : List (List AV)) + List.length ([[AV.int .i64 (x12.f_Op), AV.int .i64 (x12.f_N), AV.str (x12.f_Name), AV.str (x12.f_In), AV.int .i64 (x12.f_At)]] : List (List AV)) = List.length (s2 ++ ([x12] : List S_api_Node)) := by simp only [List.length_map, List.length_append] <;> rfl
            have hl19_b : List.length s2 + List.length ([[AV.int .i64 (x12.f_Op), AV.int .i64 (x12.f_N), AV.str (x12.f_Name), AV.str (x12.f_In), AV.int .i64 (x12.f_At)]] : List (List AV)) = List.length (s2 ++ ([x12] : List S_api_Node)) := by simp only [List.length_map, List.length_append] <;> rfl
            have hl19_c : List.length s2 + List.length ([x12] : List S_api_Node) = List.length (s2 ++ ([x12] : List S_api_Node)) := by simp only [List.length_map, List.length_append] <;> rfl
            first | simp only [hp18, hl19] | (simp only [List.length_map, take_map_len]; simp only [hp18, hl19_b, hl19_c])
            try simp only [ls]
            conv => lhs; whnf
            exact cq (hcont8 (IntKind.i64.wrap (s1 + 1), (s2 ++ ([x12] : List S_api_Node))) (fun _ => 0) hm)
          · simp only [hc17, ls]
            conv => lhs; whnf
            refine bif_or2 hm ?_ ?_ <;> clear hm <;> intro hc21 hm
            · simp only [hc21, ls]
              conv => lhs; whnf
              refine chk_some2 hm ?_; clear hm; intro hc24 hm
              refine bif_pos (app_row hc24 (by first | rfl | simp only [List.length_map]) (by first | rfl | simp only [List.length_map]) (by first | rfl | simp only [List.length_map, take_map_len]) (by kernel_rfl)) ?_
              try simp only [lt]
              have hp22 : (List.map c_api_Node (s2) : List (List AV)) ++ [[AV.int .i64 (x12.f_Op), AV.int .i64 (x12.f_N), AV.str (x12.f_Name), AV.str (x12.f_In), AV.int .i64 (x12.f_At)]] = List.map c_api_Node (s2 ++ ([x12] : List S_api_Node)) := by first | rfl | (rw [List.map_append]; rfl) | (rw [List.map_append]; done) | (simp only [List.map_append, List.map_cons, List.map_nil, List.nil_append, c_api_Node] <;> rfl)
              have hl23 : List.length (List.map c_api_Node (s2) : List (List AV)) + List.length ([[AV.int .i64 (x12.f_Op), AV.int .i64 (x12.f_N), AV.str (x12.f_Name), AV.str (x12.f_In), AV.int .i64 (x12.f_At)]] : List (List AV)) = List.length (s2 ++ ([x12] : List S_api_Node)) := by simp only [List.length_map, List.length_append] <;> rfl
              have hl23_b : List.length s2 + List.length ([[AV.int .i64 (x12.f_Op), AV.int .i64 (x12.f_N), AV.str (x12.f_Name), AV.str (x12.f_In), AV.int .i64 (x12.f_At)]] : List (List AV)) = List.length (s2 ++ ([x12] : List S_api_Node)) := by simp only [List.length_map, List.length_append] <;> rfl
              have hl23_c : List.length s2 + List.length ([x12] : List S_api_Node) = List.length (s2 ++ ([x12] : List S_api_Node)) := by simp only [List.length_map, List.length_append] <;> rfl
              first | simp only [hp22, hl23] | (simp only [List.length_map, take_map_len]; simp only [hp22, hl23_b, hl23_c])
              try simp only [ls]
              conv => lhs; whnf
              exact cq (hcont8 (IntKind.i64.wrap (s1 + 1), (s2 ++ ([x12] : List S_api_Node))) (fun _ => 0) hm)
            · simp only [hc21, ls]
              conv => lhs; whnf
              exact cq (hcont8 (IntKind.i64.wrap (s1 + 1), s2) (fun _ => 0) hm)
      · simp only [hc11, ls]
        conv => lhs; whnf
        have hq := Option.some.inj hm; clear hm; subst hq
        exact kq (hr9 (fun _ => 0))
    · cases o10 with
      | ret v =>
        have hq := Option.some.inj hm; clear hm; subst hq
        rfl
      | out t =>
        obtain ⟨x26, rfl⟩ : ∃ x, x = t := ⟨_, rfl⟩
        intro a25
        dsimp only at hm
        conv => lhs; whnf
        have hq := Option.some.inj hm; clear hm; subst hq
        try simp only [ls]
        exact fq (y := some (AV.sl 5 (List.take (List.length (x26)) (List.map c_api_Node (x26))), []))

set_option maxHeartbeats 4000000 in
theorem ok_expr_node (n : Nat) : ∀ (v0_x : S_api_Node) (v1_rest : (List (List S_api_Node))) (r : (List S_api_Node)), m_expr_node n v0_x v1_rest = some r → callN Try.prog HH XT n 50 [AV.agg [AV.int .i64 (v0_x.f_Op), AV.int .i64 (v0_x.f_N), AV.str (v0_x.f_Name), AV.str (v0_x.f_In), AV.int .i64 (v0_x.f_At)], AV.sl 1 (List.map c_sl___api_Node (v1_rest))] [] = some (AV.sl 5 (List.map c_api_Node (r)), []) := by
  cases n with
  | zero => intro v0_x v1_rest r hm; exact absurd hm (by intro h; cases h)
  | succ n =>
    intro v0_x v1_rest r hm
    rw [m_expr_node] at hm
    refine callN_eq' Try.func50 (by rfl) rfl rfl (Nat.le_of_ble_eq_true rfl) ?_
    intro call hc
    conv => lhs; whnf
    refine bind_some2 hm ?_; clear hm; intro o10 ho10 hm
    refine rounds_sim (σ := (Int × (List S_api_Node))) (τ := (List S_api_Node)) (ν := (List S_api_Node)) 0 (fun (s1, s2) a4 => stOf 21 [(5, AV.row 1 (List.length (s2))), (10, AV.sl 1 (List.map c_sl___api_Node (v1_rest))), (11, AV.int .i64 ((((v1_rest).length : Nat) : Int))), (12, AV.int .i64 (s1))]) (fun (s1, s2) a4 => [Ob.var 32 [AV.int .i64 (v0_x.f_Op), AV.int .i64 (v0_x.f_N), AV.str (v0_x.f_Name), AV.str (v0_x.f_In), AV.int .i64 (v0_x.f_At)], Ob.row 32 5 (List.map c_api_Node (s2))]) (fun x17 a16 => stOf 21 [(5, AV.row 1 (List.length (x17)))]) (fun x17 a16 => [Ob.var 32 [AV.int .i64 (v0_x.f_Op), AV.int .i64 (v0_x.f_N), AV.str (v0_x.f_Name), AV.str (v0_x.f_In), AV.int .i64 (v0_x.f_At)], Ob.row 32 5 (List.map c_api_Node (x17))]) (fun v => (AV.sl 5 (List.map c_api_Node (v)), [])) (fun k s => expr_node_L0 n v1_rest k ((s).1) ((s).2)) (fun s => rfl) o10 ?_ n (0, ([v0_x] : List S_api_Node)) (fun _ => 0) _ _ ho10 ?_ (by first | rfl | (simp only [ls, List.map_append, List.map_cons, List.map_nil, List.append_nil, List.length_set, length_copyL] <;> rfl)) (by first | rfl | (simp only [ls, List.map_append, List.map_cons, List.map_nil, List.append_nil, List.length_set, length_copyL] <;> rfl))
    · intro k3 ss a4 K5 cont6 hK7 hcont8 hm hr9
      obtain ⟨s1, s2⟩ := ss
      replace hm : expr_node_L0 n v1_rest (k3 + 1) s1 s2 = some o10 := hm
      rw [expr_node_L0] at hm
      conv => lhs; whnf
      refine bif_or2 hm ?_ ?_ <;> clear hm <;> intro hc11 hm
      · simp only [hc11, ls]
        conv => lhs; whnf
        refine bind_some2 hm ?_; clear hm; intro x12 hx12 hm
        refine bif_pos (by first | exact idx_in hx12 | exact idx_in' hx12) ?_
        simp only [idx_nth (f := c_sl___api_Node) hx12, ls]
        conv => lhs; whnf
        refine chk_some2 hm ?_; clear hm; intro hc15 hm
        refine bif_pos (app_row hc15 (by first | rfl | simp only [List.length_map]) (by first | rfl | simp only [List.length_map]) (by first | rfl | simp only [List.length_map, take_map_len]) (by kernel_rfl)) ?_
        try simp only [lt]
        have hp13 : (List.map c_api_Node (s2) : List (List AV)) ++ List.map c_api_Node (x12) = List.map c_api_Node (s2 ++ x12) := by first | rfl | (rw [List.map_append]; rfl) | (rw [List.map_append]; done) | (simp only [List.map_append, List.map_cons, List.map_nil, List.nil_append, c_api_Node] <;> rfl)
        have hl14 : List.length (List.map c_api_Node (s2) : List (List AV)) + List.length (List.map c_api_Node (x12) : List (List AV)) = List.length (s2 ++ x12) := by simp only [List.length_map, List.length_append] <;> rfl
        have hl14_b : List.length s2 + List.length (List.map c_api_Node (x12) : List (List AV)) = List.length (s2 ++ x12) := by simp only [List.length_map, List.length_append] <;> rfl
        have hl14_c : List.length s2 + List.length x12 = List.length (s2 ++ x12) := by simp only [List.length_map, List.length_append] <;> rfl
        first | simp only [hp13, hl14] | (simp only [List.length_map, take_map_len]; simp only [hp13, hl14_b, hl14_c])
        try simp only [ls]
        conv => lhs; whnf
        exact cq (hcont8 (IntKind.i64.wrap (s1 + 1), (s2 ++ x12)) (fun _ => 0) hm)
      · simp only [hc11, ls]
        conv => lhs; whnf
        have hq := Option.some.inj hm; clear hm; subst hq
        exact kq (hr9 (fun _ => 0))
    · cases o10 with
      | ret v =>
        have hq := Option.some.inj hm; clear hm; subst hq
        rfl
      | out t =>
        obtain ⟨x17, rfl⟩ : ∃ x, x = t := ⟨_, rfl⟩
        intro a16
        dsimp only at hm
        conv => lhs; whnf
        have hq := Option.some.inj hm; clear hm; subst hq
        try simp only [ls]
        exact fq (y := some (AV.sl 5 (List.take (List.length (x17)) (List.map c_api_Node (x17))), []))

set_option maxHeartbeats 4000000 in
theorem ok_expr_parser_is (n : Nat) : ∀ (v1_s : (List UInt8)) (p_l : (List S_api_Token)) (p_i : Int) (p_in : Int) (p_e : Int) (p_at : Int) (r : Bool), m_expr_parser_is n v1_s p_l p_i p_in p_e p_at = some r → callN Try.prog HH XT n 49 [AV.ptr 0 0, AV.str (v1_s)] [Ob.var 48 [AV.sl 4 (List.map c_api_Token (p_l)), AV.int .i64 (p_i), AV.int .i64 (p_in), AV.int .i64 (p_e), AV.int .i64 (p_at)]] = some (AV.bool (r), [Ob.var 48 [AV.sl 4 (List.map c_api_Token (p_l)), AV.int .i64 (p_i), AV.int .i64 (p_in), AV.int .i64 (p_e), AV.int .i64 (p_at)]]) := by
  cases n with
  | zero => intro v1_s p_l p_i p_in p_e p_at r hm; exact absurd hm (by intro h; cases h)
  | succ n =>
    intro v1_s p_l p_i p_in p_e p_at r hm
    rw [m_expr_parser_is] at hm
    refine callN_eq' Try.func49 (by rfl) rfl rfl (Nat.le_of_ble_eq_true rfl) ?_
    intro call hc
    conv => lhs; whnf
    refine bif_or2 hm ?_ ?_ <;> clear hm <;> intro hc1 hm
    · simp only [hc1, ls]
      conv => lhs; whnf
      refine bind_some2 hm ?_; clear hm; intro x2 hx2 hm
      refine bif_pos (by first | exact idx_in hx2 | exact idx_in' hx2) ?_
      simp only [idx_nth (f := c_api_Token) hx2, ls]
      conv => lhs; whnf
      refine bif_or2 hm ?_ ?_ <;> clear hm <;> intro hc3 hm
      · simp only [hc3, ls]
        conv => lhs; whnf
        refine bind_some2 hm ?_; clear hm; intro x4 hx4 hm
        refine bif_pos (by first | exact idx_in hx4 | exact idx_in' hx4) ?_
        simp only [idx_nth (f := c_api_Token) hx4, ls]
        conv => lhs; whnf
        have hq := Option.some.inj hm; clear hm; subst hq
        try simp only [ls]
        exact fq (y := some (AV.bool ((x4.f_Text == v1_s)), [Ob.var 48 [AV.sl 4 (List.map c_api_Token (p_l)), AV.int .i64 (p_i), AV.int .i64 (p_in), AV.int .i64 (p_e), AV.int .i64 (p_at)]]))
      · simp only [hc3, ls]
        conv => lhs; whnf
        have hq := Option.some.inj hm; clear hm; subst hq
        try simp only [ls]
        exact fq (y := some (AV.bool (false), [Ob.var 48 [AV.sl 4 (List.map c_api_Token (p_l)), AV.int .i64 (p_i), AV.int .i64 (p_in), AV.int .i64 (p_e), AV.int .i64 (p_at)]]))
    · simp only [hc1, ls]
      conv => lhs; whnf
      have hq := Option.some.inj hm; clear hm; subst hq
      try simp only [ls]
      exact fq (y := some (AV.bool (false), [Ob.var 48 [AV.sl 4 (List.map c_api_Token (p_l)), AV.int .i64 (p_i), AV.int .i64 (p_in), AV.int .i64 (p_e), AV.int .i64 (p_at)]]))

set_option maxHeartbeats 4000000 in
theorem ok_expr_parser_fail (n : Nat) : ∀ (v1_e : Int) (p_l : (List S_api_Token)) (p_i : Int) (p_in : Int) (p_e : Int) (p_at : Int) (r : ((List S_api_Node) × Int × Int)), m_expr_parser_fail n v1_e p_l p_i p_in p_e p_at = some r → callN Try.prog HH XT n 57 [AV.ptr 0 0, AV.int .i64 (v1_e)] [Ob.var 48 [AV.sl 4 (List.map c_api_Token (p_l)), AV.int .i64 (p_i), AV.int .i64 (p_in), AV.int .i64 (p_e), AV.int .i64 (p_at)]] = some (AV.sl 5 (List.map c_api_Node ((r).1)), [Ob.var 48 [AV.sl 4 (List.map c_api_Token (p_l)), AV.int .i64 (p_i), AV.int .i64 (p_in), AV.int .i64 ((r).2.1), AV.int .i64 ((r).2.2)]]) := by
  cases n with
  | zero => intro v1_e p_l p_i p_in p_e p_at r hm; exact absurd hm (by intro h; cases h)
  | succ n =>
    intro v1_e p_l p_i p_in p_e p_at r hm
    rw [m_expr_parser_fail] at hm
    refine callN_eq' Try.func57 (by rfl) rfl rfl (Nat.le_of_ble_eq_true rfl) ?_
    intro call hc
    conv => lhs; whnf
    refine bif_or2 hm ?_ ?_ <;> clear hm <;> intro hc1 hm
    · simp only [hc1, ls]
      conv => lhs; whnf
      have hq := Option.some.inj hm; clear hm; subst hq
      try simp only [ls]
      exact fq (y := some (AV.sl 5 [], [Ob.var 48 [AV.sl 4 (List.map c_api_Token (p_l)), AV.int .i64 (p_i), AV.int .i64 (p_in), AV.int .i64 (p_e), AV.int .i64 (p_at)]]))
    · simp only [hc1, ls]
      conv => lhs; whnf
      refine bif_or2 hm ?_ ?_ <;> clear hm <;> intro hc2 hm
      · simp only [hc2, ls]
        conv => lhs; whnf
        refine bind_some2 hm ?_; clear hm; intro x3 hx3 hm
        refine bif_pos (by first | exact idx_in hx3 | exact idx_in' hx3) ?_
        simp only [idx_nth (f := c_api_Token) hx3, ls]
        conv => lhs; whnf
        have hq := Option.some.inj hm; clear hm; subst hq
        try simp only [ls]
        exact fq (y := some (AV.sl 5 [], [Ob.var 48 [AV.sl 4 (List.map c_api_Token (p_l)), AV.int .i64 (p_i), AV.int .i64 (p_in), AV.int .i64 (v1_e), AV.int .i64 (x3.f_At)]]))
      · simp only [hc2, ls]
        conv => lhs; whnf
        refine bif_or2 hm ?_ ?_ <;> clear hm <;> intro hc4 hm
        · simp only [hc4, ls]
          conv => lhs; whnf
          refine bif_or2 hm ?_ ?_ <;> clear hm <;> intro hc5 hm
          · simp only [hc5, ls]
            conv => lhs; whnf
            refine bind_some2 hm ?_; clear hm; intro x6 hx6 hm
            refine bif_pos (by first | exact idx_in hx6 | exact idx_in' hx6) ?_
            simp only [idx_nth (f := c_api_Token) hx6, ls]
            conv => lhs; whnf
            refine bind_some2 hm ?_; clear hm; intro x7 hx7 hm
            refine bif_pos (by first | exact idx_in hx7 | exact idx_in' hx7) ?_
            simp only [idx_nth (f := c_api_Token) hx7, ls]
            conv => lhs; whnf
            have hq := Option.some.inj hm; clear hm; subst hq
            try simp only [ls]
            exact fq (y := some (AV.sl 5 [], [Ob.var 48 [AV.sl 4 (List.map c_api_Token (p_l)), AV.int .i64 (p_i), AV.int .i64 (p_in), AV.int .i64 (6), AV.int .i64 (IntKind.i64.wrap (x6.f_At + (((x7.f_Text).length : Nat) : Int)))]]))
          · simp only [hc5, ls]
            conv => lhs; whnf
            have hq := Option.some.inj hm; clear hm; subst hq
            try simp only [ls]
            exact fq (y := some (AV.sl 5 [], [Ob.var 48 [AV.sl 4 (List.map c_api_Token (p_l)), AV.int .i64 (p_i), AV.int .i64 (p_in), AV.int .i64 (6), AV.int .i64 (p_at)]]))
        · simp only [hc4, ls]
          conv => lhs; whnf
          refine bif_or2 hm ?_ ?_ <;> clear hm <;> intro hc8 hm
          · simp only [hc8, ls]
            conv => lhs; whnf
            refine bind_some2 hm ?_; clear hm; intro x9 hx9 hm
            refine bif_pos (by first | exact idx_in hx9 | exact idx_in' hx9) ?_
            simp only [idx_nth (f := c_api_Token) hx9, ls]
            conv => lhs; whnf
            refine bind_some2 hm ?_; clear hm; intro x10 hx10 hm
            refine bif_pos (by first | exact idx_in hx10 | exact idx_in' hx10) ?_
            simp only [idx_nth (f := c_api_Token) hx10, ls]
            conv => lhs; whnf
            have hq := Option.some.inj hm; clear hm; subst hq
            try simp only [ls]
            exact fq (y := some (AV.sl 5 [], [Ob.var 48 [AV.sl 4 (List.map c_api_Token (p_l)), AV.int .i64 (p_i), AV.int .i64 (p_in), AV.int .i64 (v1_e), AV.int .i64 (IntKind.i64.wrap (x9.f_At + (((x10.f_Text).length : Nat) : Int)))]]))
          · simp only [hc8, ls]
            conv => lhs; whnf
            have hq := Option.some.inj hm; clear hm; subst hq
            try simp only [ls]
            exact fq (y := some (AV.sl 5 [], [Ob.var 48 [AV.sl 4 (List.map c_api_Token (p_l)), AV.int .i64 (p_i), AV.int .i64 (p_in), AV.int .i64 (v1_e), AV.int .i64 (p_at)]]))

set_option maxHeartbeats 4000000 in
theorem ok_expr_parser_name (n : Nat) : ∀ (p_l : (List S_api_Token)) (p_i : Int) (p_in : Int) (p_e : Int) (p_at : Int) (r : ((List UInt8) × Int × Bool × Int)), m_expr_parser_name n p_l p_i p_in p_e p_at = some r → callN Try.prog HH XT n 58 [AV.ptr 0 0] [Ob.var 48 [AV.sl 4 (List.map c_api_Token (p_l)), AV.int .i64 (p_i), AV.int .i64 (p_in), AV.int .i64 (p_e), AV.int .i64 (p_at)]] = some (AV.tup [AV.str ((r).1), AV.int .i64 ((r).2.1), AV.bool ((r).2.2.1)], [Ob.var 48 [AV.sl 4 (List.map c_api_Token (p_l)), AV.int .i64 ((r).2.2.2), AV.int .i64 (p_in), AV.int .i64 (p_e), AV.int .i64 (p_at)]]) := by
  cases n with
  | zero => intro p_l p_i p_in p_e p_at r hm; exact absurd hm (by intro h; cases h)
  | succ n =>
    intro p_l p_i p_in p_e p_at r hm
    rw [m_expr_parser_name] at hm
    refine callN_eq' Try.func58 (by rfl) rfl rfl (Nat.le_of_ble_eq_true rfl) ?_
    intro call hc
    conv => lhs; whnf
    refine bif_or2 hm ?_ ?_ <;> clear hm <;> intro hc1 hm
    · simp only [hc1, ls]
      conv => lhs; whnf
      have hq := Option.some.inj hm; clear hm; subst hq
      try simp only [ls]
      exact fq (y := some (AV.tup [AV.str (([] : List UInt8)), AV.int .i64 (0), AV.bool (false)], [Ob.var 48 [AV.sl 4 (List.map c_api_Token (p_l)), AV.int .i64 (p_i), AV.int .i64 (p_in), AV.int .i64 (p_e), AV.int .i64 (p_at)]]))
    · simp only [hc1, ls]
      conv => lhs; whnf
      refine bind_some2 hm ?_; clear hm; intro x2 hx2 hm
      refine bif_pos (by first | exact idx_in hx2 | exact idx_in' hx2) ?_
      simp only [idx_nth (f := c_api_Token) hx2, ls]
      conv => lhs; whnf
      refine bif_or2 hm ?_ ?_ <;> clear hm <;> intro hc3 hm
      · simp only [hc3, ls]
        conv => lhs; whnf
        have hq := Option.some.inj hm; clear hm; subst hq
        try simp only [ls]
        exact fq (y := some (AV.tup [AV.str (([] : List UInt8)), AV.int .i64 (0), AV.bool (false)], [Ob.var 48 [AV.sl 4 (List.map c_api_Token (p_l)), AV.int .i64 (p_i), AV.int .i64 (p_in), AV.int .i64 (p_e), AV.int .i64 (p_at)]]))
      · simp only [hc3, ls]
        conv => lhs; whnf
        refine bind_some2 hm ?_; clear hm; intro x4 hx4 hm
        refine bif_pos (by first | exact idx_in hx4 | exact idx_in' hx4) ?_
        simp only [idx_nth (f := c_api_Token) hx4, ls]
        conv => lhs; whnf
        refine bind_some2 hm ?_; clear hm; intro y5 hy5 hm
        have hk6 : call false 31 [AV.str (x4.f_Text)] [] = some (AV.bool (y5), []) := (hc _ _ _).trans (ok_scan_Name n x4.f_Text y5 hy5)
        try simp only [List.drop_zero, ls]
        first | simp only [hk6] | rewrite [hk6]
        try simp only [ls]
        conv => lhs; whnf
        refine bif_or2 hm ?_ ?_ <;> clear hm <;> intro hc7 hm
        · simp only [hc7, ls]
          conv => lhs; whnf
          refine bind_some2 hm ?_; clear hm; intro x8 hx8 hm
          refine bif_pos (by first | exact idx_in hx8 | exact idx_in' hx8) ?_
          simp only [idx_nth (f := c_api_Token) hx8, ls]
          conv => lhs; whnf
          have hq := Option.some.inj hm; clear hm; subst hq
          try simp only [ls]
          exact fq (y := some (AV.tup [AV.str (x8.f_Text), AV.int .i64 (x8.f_At), AV.bool (true)], [Ob.var 48 [AV.sl 4 (List.map c_api_Token (p_l)), AV.int .i64 (IntKind.i64.wrap (p_i + 1)), AV.int .i64 (p_in), AV.int .i64 (p_e), AV.int .i64 (p_at)]]))
        · simp only [hc7, ls]
          conv => lhs; whnf
          have hq := Option.some.inj hm; clear hm; subst hq
          try simp only [ls]
          exact fq (y := some (AV.tup [AV.str (([] : List UInt8)), AV.int .i64 (0), AV.bool (false)], [Ob.var 48 [AV.sl 4 (List.map c_api_Token (p_l)), AV.int .i64 (p_i), AV.int .i64 (p_in), AV.int .i64 (p_e), AV.int .i64 (p_at)]]))
end Go.Proofs.Ytjobghbdfannfaa
end

section
namespace Go.Proofs.Ytjobghbdfannfaa
set_option linter.unusedVariables false
set_option linter.unusedSimpArgs false
set_option maxRecDepth 100000

set_option maxHeartbeats 4000000 in
theorem ok_expr_sign (n : Nat) : ∀ (v0_op : Int) (r : (List UInt8)), m_expr_sign n v0_op = some r → callN Try.prog HH XT n 34 [AV.int .i64 (v0_op)] [] = some (AV.str (r), []) := by
  cases n with
  | zero => intro v0_op r hm; exact absurd hm (by intro h; cases h)
  | succ n =>
    intro v0_op r hm
    rw [m_expr_sign] at hm
    refine callN_eq' Try.func34 (by rfl) rfl rfl (Nat.le_of_ble_eq_true rfl) ?_
    intro call hc
    conv => lhs; whnf
    refine bif_or2 hm ?_ ?_ <;> clear hm <;> intro hc1 hm
    · simp only [hc1, ls]
      conv => lhs; whnf
      have hq := Option.some.inj hm; clear hm; subst hq
      try simp only [ls]
      exact fq (y := some (AV.str (([124, 124] : List UInt8)), []))
    · simp only [hc1, ls]
      conv => lhs; whnf
      refine bif_or2 hm ?_ ?_ <;> clear hm <;> intro hc2 hm
      · simp only [hc2, ls]
        conv => lhs; whnf
        have hq := Option.some.inj hm; clear hm; subst hq
        try simp only [ls]
        exact fq (y := some (AV.str (([38, 38] : List UInt8)), []))
      · simp only [hc2, ls]
        conv => lhs; whnf
        refine bif_or2 hm ?_ ?_ <;> clear hm <;> intro hc3 hm
        · simp only [hc3, ls]
          conv => lhs; whnf
          have hq := Option.some.inj hm; clear hm; subst hq
          try simp only [ls]
          exact fq (y := some (AV.str (([60, 61] : List UInt8)), []))
        · simp only [hc3, ls]
          conv => lhs; whnf
          refine bif_or2 hm ?_ ?_ <;> clear hm <;> intro hc4 hm
          · simp only [hc4, ls]
            conv => lhs; whnf
            have hq := Option.some.inj hm; clear hm; subst hq
            try simp only [ls]
            exact fq (y := some (AV.str (([60] : List UInt8)), []))
          · simp only [hc4, ls]
            conv => lhs; whnf
            refine bif_or2 hm ?_ ?_ <;> clear hm <;> intro hc5 hm
            · simp only [hc5, ls]
              conv => lhs; whnf
              have hq := Option.some.inj hm; clear hm; subst hq
              try simp only [ls]
              exact fq (y := some (AV.str (([33, 61] : List UInt8)), []))
            · simp only [hc5, ls]
              conv => lhs; whnf
              refine bif_or2 hm ?_ ?_ <;> clear hm <;> intro hc6 hm
              · simp only [hc6, ls]
                conv => lhs; whnf
                have hq := Option.some.inj hm; clear hm; subst hq
                try simp only [ls]
                exact fq (y := some (AV.str (([61, 61] : List UInt8)), []))
              · simp only [hc6, ls]
                conv => lhs; whnf
                refine bif_or2 hm ?_ ?_ <;> clear hm <;> intro hc7 hm
                · simp only [hc7, ls]
                  conv => lhs; whnf
                  have hq := Option.some.inj hm; clear hm; subst hq
                  try simp only [ls]
                  exact fq (y := some (AV.str (([42] : List UInt8)), []))
                · simp only [hc7, ls]
                  conv => lhs; whnf
                  refine bif_or2 hm ?_ ?_ <;> clear hm <;> intro hc8 hm
                  · simp only [hc8, ls]
                    conv => lhs; whnf
                    have hq := Option.some.inj hm; clear hm; subst hq
                    try simp only [ls]
                    exact fq (y := some (AV.str (([45] : List UInt8)), []))
                  · simp only [hc8, ls]
                    conv => lhs; whnf
                    refine bif_or2 hm ?_ ?_ <;> clear hm <;> intro hc9 hm
                    · simp only [hc9, ls]
                      conv => lhs; whnf
                      have hq := Option.some.inj hm; clear hm; subst hq
                      try simp only [ls]
                      exact fq (y := some (AV.str (([43] : List UInt8)), []))
                    · simp only [hc9, ls]
                      conv => lhs; whnf
                      refine bif_or2 hm ?_ ?_ <;> clear hm <;> intro hc10 hm
                      · simp only [hc10, ls]
                        conv => lhs; whnf
                        have hq := Option.some.inj hm; clear hm; subst hq
                        try simp only [ls]
                        exact fq (y := some (AV.str (([33] : List UInt8)), []))
                      · simp only [hc10, ls]
                        conv => lhs; whnf
                        refine bif_or2 hm ?_ ?_ <;> clear hm <;> intro hc11 hm
                        · simp only [hc11, ls]
                          conv => lhs; whnf
                          have hq := Option.some.inj hm; clear hm; subst hq
                          try simp only [ls]
                          exact fq (y := some (AV.str (([] : List UInt8)), []))
                        · simp only [hc11, ls]
                          conv => lhs; whnf
                          refine bif_or2 hm ?_ ?_ <;> clear hm <;> intro hc12 hm
                          · simp only [hc12, ls]
                            conv => lhs; whnf
                            have hq := Option.some.inj hm; clear hm; subst hq
                            try simp only [ls]
                            exact fq (y := some (AV.str (([] : List UInt8)), []))
                          · simp only [hc12, ls]
                            conv => lhs; whnf
                            refine bif_or2 hm ?_ ?_ <;> clear hm <;> intro hc13 hm
                            · simp only [hc13, ls]
                              conv => lhs; whnf
                              have hq := Option.some.inj hm; clear hm; subst hq
                              try simp only [ls]
                              exact fq (y := some (AV.str (([] : List UInt8)), []))
                            · simp only [hc13, ls]
                              conv => lhs; whnf
                              refine bif_or2 hm ?_ ?_ <;> clear hm <;> intro hc14 hm
                              · simp only [hc14, ls]
                                conv => lhs; whnf
                                have hq := Option.some.inj hm; clear hm; subst hq
                                try simp only [ls]
                                exact fq (y := some (AV.str (([] : List UInt8)), []))
                              · simp only [hc14, ls]
                                conv => lhs; whnf
                                refine bif_or2 hm ?_ ?_ <;> clear hm <;> intro hc15 hm
                                · simp only [hc15, ls]
                                  conv => lhs; whnf
                                  have hq := Option.some.inj hm; clear hm; subst hq
                                  try simp only [ls]
                                  exact fq (y := some (AV.str (([] : List UInt8)), []))
                                · cases hm
end Go.Proofs.Ytjobghbdfannfaa
end

