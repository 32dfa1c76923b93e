/- Parts of the proofs: what they lean on. Conditions: none. -/
import Derived.Test.YtmnnkeejgkhgpaaProg
import Derived.Test.YtmnnkeejgkhgpaaCodeS10
section
namespace Go.Proofs.Ytmnnkeejgkhgpaa
set_option linter.unusedVariables false
set_option linter.unusedSimpArgs false
theorem rep_one {α : Type} {r : Rd α} {f : α → AV} (he : Enc r (fun x => [f x])) {W : World} {s : Option Addr} {len cap : Nat} {x : α} (h : r.rel W (Value.slice s len cap).cells.toList x) : Rep (SAll W) W [] [] (f x) (.slice s len cap) := by
  obtain ⟨h1, _⟩ := he _ _ _ h
  cases h1 with | cons _ _ _ _ _ _ h t => exact h
def rd_int_i64 : Rd Int := rInt .i64
theorem op_int_i64 : Opens Try.prog 3 rd_int_i64 := opens_int Try.underlying3 (by kernel_rfl)
theorem en_int_i64 : Enc rd_int_i64 encI := enc_int _
def rd_api_Op : Rd OpS := rMap (fun x => ⟨x.1, x.2.1, x.2.2⟩) (rPair rd_int_i64 (rPair rd_int_i64 rd_int_i64))
theorem op_api_Op : Opens Try.prog 53 rd_api_Op := opens_map _ (opens_struct Try.underlying53 (by kernel_rfl) (fields_cons rfl op_int_i64 (fields_cons rfl op_int_i64 (fields_one rfl op_int_i64) (by decide)) (by decide)))
theorem en_api_Op : Enc rd_api_Op encOp := enc_map (fun _ => rfl) (enc_pair en_int_i64 (enc_pair en_int_i64 en_int_i64))
def rd_sl_api_Op : Rd (List OpS) := rSlice rd_api_Op
theorem op_sl_api_Op : Opens Try.prog 32 rd_sl_api_Op := opens_slice Try.underlying32 (by kernel_rfl) op_api_Op (by decide)
theorem en_sl_api_Op : Enc rd_sl_api_Op (fun l => [AV.sl 3 (l.map encOp)]) := enc_slice en_api_Op
end Go.Proofs.Ytmnnkeejgkhgpaa
end

section
namespace Go.Proofs.Ytmnnkeejgkhgpaa
set_option linter.unusedVariables false
set_option linter.unusedSimpArgs false
set_option maxRecDepth 100000

inductive R_ref06_made where
  | c0 (x : (List OpS))
  | c1 (x : (Nat × Nat))
inductive R_code_of where
  | c0 (x : (Int × Bool))
  | c1 (x : (Int × Bool))
  | c2 (x : (Int × Bool))
  | c3 (x : (Int × Bool))
  | c4 (x : (Int × Bool))
  | c5 (x : (Int × Bool))
  | c6 (x : (Int × Bool))
  | c7 (x : (Int × Bool))
  | c8 (x : (Int × Bool))
  | c9 (x : (Int × Bool))
  | c10 (x : (Int × Bool))
def m_code_of : Nat → Int → Option R_code_of
  | 0, _ => none
  | n+1, v0_op => (bif decide (v0_op < 5) then (some (R_code_of.c0 (0, false))) else (bif decide (15 ≤ v0_op) then (some (R_code_of.c0 (0, false))) else (bif decide (v0_op = ((14 : Nat) : Int)) then (some (R_code_of.c1 (2, true))) else (bif decide (v0_op = ((13 : Nat) : Int)) then (some (R_code_of.c2 (2, true))) else (bif decide (v0_op = ((12 : Nat) : Int)) then (some (R_code_of.c3 (2, true))) else (bif decide (v0_op = ((11 : Nat) : Int)) then (some (R_code_of.c4 (2, true))) else (bif decide (v0_op = ((10 : Nat) : Int)) then (some (R_code_of.c5 (2, true))) else (bif decide (v0_op = ((9 : Nat) : Int)) then (some (R_code_of.c6 (2, true))) else (bif decide (v0_op = ((8 : Nat) : Int)) then (some (R_code_of.c7 (2, true))) else (bif decide (v0_op = ((7 : Nat) : Int)) then (some (R_code_of.c8 (2, true))) else (bif decide (v0_op = ((6 : Nat) : Int)) then (some (R_code_of.c9 (2, true))) else (bif decide (v0_op = ((5 : Nat) : Int)) then (some (R_code_of.c10 (1, true))) else (bif decide (v0_op = ((4 : Nat) : Int)) then (some (R_code_of.c0 (0, true))) else (bif decide (v0_op = ((3 : Nat) : Int)) then (some (R_code_of.c0 (0, true))) else (bif decide (v0_op = ((2 : Nat) : Int)) then (some (R_code_of.c0 (0, true))) else (bif decide (v0_op = ((1 : Nat) : Int)) then (some (R_code_of.c0 (0, true))) else (bif decide (v0_op = ((0 : Nat) : Int)) then (some (R_code_of.c0 (0, true))) else none)))))))))))))))))

def code_lies_L0 (n : Nat)  (v0_l : (List OpS)) : Nat → Int → Int → Int → Option (LR (Int × Int) (Int × Int))
  | 0, _, _, _ => none
  | k4+1, s1, s2, s3 => (bif decide (s3 < (((v0_l).length : Nat) : Int)) then ((idx v0_l s3).bind fun x13 => ((m_code_of n x13.op).bind fun y14 => (match y14 with | .c0 y16 => (bif decide (1 ≤ x13.op) then (bif (y16).2 then (bif decide (s1 < ((y16).1)) then (some (.ret ((-1), (-1)))) else (code_lies_L0 n v0_l k4 (IntKind.i64.wrap (s1 + (IntKind.i64.wrap (1 - ((y16).1))))) (if s2 < (IntKind.i64.wrap (s1 + (IntKind.i64.wrap (1 - ((y16).1))))) then (IntKind.i64.wrap (s1 + (IntKind.i64.wrap (1 - ((y16).1))))) else s2) (IntKind.i64.wrap (s3 + 1)))) else (bif decide (x13.op ≤ 4) then (bif decide (s1 < ((y16).1)) then (some (.ret ((-1), (-1)))) else (code_lies_L0 n v0_l k4 (IntKind.i64.wrap (s1 + (IntKind.i64.wrap (1 - ((y16).1))))) (if s2 < (IntKind.i64.wrap (s1 + (IntKind.i64.wrap (1 - ((y16).1))))) then (IntKind.i64.wrap (s1 + (IntKind.i64.wrap (1 - ((y16).1))))) else s2) (IntKind.i64.wrap (s3 + 1)))) else (some (.ret ((-1), (-1)))))) else (bif (y16).2 then (bif decide (s1 < ((y16).1)) then (some (.ret ((-1), (-1)))) else (code_lies_L0 n v0_l k4 (IntKind.i64.wrap (s1 + (IntKind.i64.wrap (1 - ((y16).1))))) (if s2 < (IntKind.i64.wrap (s1 + (IntKind.i64.wrap (1 - ((y16).1))))) then (IntKind.i64.wrap (s1 + (IntKind.i64.wrap (1 - ((y16).1))))) else s2) (IntKind.i64.wrap (s3 + 1)))) else (some (.ret ((-1), (-1)))))) | .c1 y17 => (bif decide (1 ≤ x13.op) then (bif (y17).2 then (bif decide (s1 < ((y17).1)) then (some (.ret ((-1), (-1)))) else (code_lies_L0 n v0_l k4 (IntKind.i64.wrap (s1 + (IntKind.i64.wrap (1 - ((y17).1))))) (if s2 < (IntKind.i64.wrap (s1 + (IntKind.i64.wrap (1 - ((y17).1))))) then (IntKind.i64.wrap (s1 + (IntKind.i64.wrap (1 - ((y17).1))))) else s2) (IntKind.i64.wrap (s3 + 1)))) else (bif decide (x13.op ≤ 4) then (bif decide (s1 < ((y17).1)) then (some (.ret ((-1), (-1)))) else (code_lies_L0 n v0_l k4 (IntKind.i64.wrap (s1 + (IntKind.i64.wrap (1 - ((y17).1))))) (if s2 < (IntKind.i64.wrap (s1 + (IntKind.i64.wrap (1 - ((y17).1))))) then (IntKind.i64.wrap (s1 + (IntKind.i64.wrap (1 - ((y17).1))))) else s2) (IntKind.i64.wrap (s3 + 1)))) else (some (.ret ((-1), (-1)))))) else (bif (y17).2 then (bif decide (s1 < ((y17).1)) then (some (.ret ((-1), (-1)))) else (code_lies_L0 n v0_l k4 (IntKind.i64.wrap (s1 + (IntKind.i64.wrap (1 - ((y17).1))))) (if s2 < (IntKind.i64.wrap (s1 + (IntKind.i64.wrap (1 - ((y17).1))))) then (IntKind.i64.wrap (s1 + (IntKind.i64.wrap (1 - ((y17).1))))) else s2) (IntKind.i64.wrap (s3 + 1)))) else (some (.ret ((-1), (-1)))))) | .c2 y18 => (bif decide (1 ≤ x13.op) then (bif (y18).2 then (bif decide (s1 < ((y18).1)) then (some (.ret ((-1), (-1)))) else (code_lies_L0 n v0_l k4 (IntKind.i64.wrap (s1 + (IntKind.i64.wrap (1 - ((y18).1))))) (if s2 < (IntKind.i64.wrap (s1 + (IntKind.i64.wrap (1 - ((y18).1))))) then (IntKind.i64.wrap (s1 + (IntKind.i64.wrap (1 - ((y18).1))))) else s2) (IntKind.i64.wrap (s3 + 1)))) else (bif decide (x13.op ≤ 4) then (bif decide (s1 < ((y18).1)) then (some (.ret ((-1), (-1)))) else (code_lies_L0 n v0_l k4 (IntKind.i64.wrap (s1 + (IntKind.i64.wrap (1 - ((y18).1))))) (if s2 < (IntKind.i64.wrap (s1 + (IntKind.i64.wrap (1 - ((y18).1))))) then (IntKind.i64.wrap (s1 + (IntKind.i64.wrap (1 - ((y18).1))))) else s2) (IntKind.i64.wrap (s3 + 1)))) else (some (.ret ((-1), (-1)))))) else (bif (y18).2 then (bif decide (s1 < ((y18).1)) then (some (.ret ((-1), (-1)))) else (code_lies_L0 n v0_l k4 (IntKind.i64.wrap (s1 + (IntKind.i64.wrap (1 - ((y18).1))))) (if s2 < (IntKind.i64.wrap (s1 + (IntKind.i64.wrap (1 - ((y18).1))))) then (IntKind.i64.wrap (s1 + (IntKind.i64.wrap (1 - ((y18).1))))) else s2) (IntKind.i64.wrap (s3 + 1)))) else (some (.ret ((-1), (-1)))))) | .c3 y19 => (bif decide (1 ≤ x13.op) then (bif (y19).2 then (bif decide (s1 < ((y19).1)) then (some (.ret ((-1), (-1)))) else (code_lies_L0 n v0_l k4 (IntKind.i64.wrap (s1 + (IntKind.i64.wrap (1 - ((y19).1))))) (if s2 < (IntKind.i64.wrap (s1 + (IntKind.i64.wrap (1 - ((y19).1))))) then (IntKind.i64.wrap (s1 + (IntKind.i64.wrap (1 - ((y19).1))))) else s2) (IntKind.i64.wrap (s3 + 1)))) else (bif decide (x13.op ≤ 4) then (bif decide (s1 < ((y19).1)) then (some (.ret ((-1), (-1)))) else (code_lies_L0 n v0_l k4 (IntKind.i64.wrap (s1 + (IntKind.i64.wrap (1 - ((y19).1))))) (if s2 < (IntKind.i64.wrap (s1 + (IntKind.i64.wrap (1 - ((y19).1))))) then (IntKind.i64.wrap (s1 + (IntKind.i64.wrap (1 - ((y19).1))))) else s2) (IntKind.i64.wrap (s3 + 1)))) else (some (.ret ((-1), (-1)))))) else (bif (y19).2 then (bif decide (s1 < ((y19).1)) then (some (.ret ((-1), (-1)))) else (code_lies_L0 n v0_l k4 (IntKind.i64.wrap (s1 + (IntKind.i64.wrap (1 - ((y19).1))))) (if s2 < (IntKind.i64.wrap (s1 + (IntKind.i64.wrap (1 - ((y19).1))))) then (IntKind.i64.wrap (s1 + (IntKind.i64.wrap (1 - ((y19).1))))) else s2) (IntKind.i64.wrap (s3 + 1)))) else (some (.ret ((-1), (-1)))))) | .c4 y20 => (bif decide (1 ≤ x13.op) then (bif (y20).2 then (bif decide (s1 < ((y20).1)) then (some (.ret ((-1), (-1)))) else (code_lies_L0 n v0_l k4 (IntKind.i64.wrap (s1 + (IntKind.i64.wrap (1 - ((y20).1))))) (if s2 < (IntKind.i64.wrap (s1 + (IntKind.i64.wrap (1 - ((y20).1))))) then (IntKind.i64.wrap (s1 + (IntKind.i64.wrap (1 - ((y20).1))))) else s2) (IntKind.i64.wrap (s3 + 1)))) else (bif decide (x13.op ≤ 4) then (bif decide (s1 < ((y20).1)) then (some (.ret ((-1), (-1)))) else (code_lies_L0 n v0_l k4 (IntKind.i64.wrap (s1 + (IntKind.i64.wrap (1 - ((y20).1))))) (if s2 < (IntKind.i64.wrap (s1 + (IntKind.i64.wrap (1 - ((y20).1))))) then (IntKind.i64.wrap (s1 + (IntKind.i64.wrap (1 - ((y20).1))))) else s2) (IntKind.i64.wrap (s3 + 1)))) else (some (.ret ((-1), (-1)))))) else (bif (y20).2 then (bif decide (s1 < ((y20).1)) then (some (.ret ((-1), (-1)))) else (code_lies_L0 n v0_l k4 (IntKind.i64.wrap (s1 + (IntKind.i64.wrap (1 - ((y20).1))))) (if s2 < (IntKind.i64.wrap (s1 + (IntKind.i64.wrap (1 - ((y20).1))))) then (IntKind.i64.wrap (s1 + (IntKind.i64.wrap (1 - ((y20).1))))) else s2) (IntKind.i64.wrap (s3 + 1)))) else (some (.ret ((-1), (-1)))))) | .c5 y21 => (bif decide (1 ≤ x13.op) then (bif (y21).2 then (bif decide (s1 < ((y21).1)) then (some (.ret ((-1), (-1)))) else (code_lies_L0 n v0_l k4 (IntKind.i64.wrap (s1 + (IntKind.i64.wrap (1 - ((y21).1))))) (if s2 < (IntKind.i64.wrap (s1 + (IntKind.i64.wrap (1 - ((y21).1))))) then (IntKind.i64.wrap (s1 + (IntKind.i64.wrap (1 - ((y21).1))))) else s2) (IntKind.i64.wrap (s3 + 1)))) else (bif decide (x13.op ≤ 4) then (bif decide (s1 < ((y21).1)) then (some (.ret ((-1), (-1)))) else (code_lies_L0 n v0_l k4 (IntKind.i64.wrap (s1 + (IntKind.i64.wrap (1 - ((y21).1))))) (if s2 < (IntKind.i64.wrap (s1 + (IntKind.i64.wrap (1 - ((y21).1))))) then (IntKind.i64.wrap (s1 + (IntKind.i64.wrap (1 - ((y21).1))))) else s2) (IntKind.i64.wrap (s3 + 1)))) else (some (.ret ((-1), (-1)))))) else (bif (y21).2 then (bif decide (s1 < ((y21).1)) then (some (.ret ((-1), (-1)))) else (code_lies_L0 n v0_l k4 (IntKind.i64.wrap (s1 + (IntKind.i64.wrap (1 - ((y21).1))))) (if s2 < (IntKind.i64.wrap (s1 + (IntKind.i64.wrap (1 - ((y21).1))))) then (IntKind.i64.wrap (s1 + (IntKind.i64.wrap (1 - ((y21).1))))) else s2) (IntKind.i64.wrap (s3 + 1)))) else (some (.ret ((-1), (-1)))))) | .c6 y22 => (bif decide (1 ≤ x13.op) then (bif (y22).2 then (bif decide (s1 < ((y22).1)) then (some (.ret ((-1), (-1)))) else (code_lies_L0 n v0_l k4 (IntKind.i64.wrap (s1 + (IntKind.i64.wrap (1 - ((y22).1))))) (if s2 < (IntKind.i64.wrap (s1 + (IntKind.i64.wrap (1 - ((y22).1))))) then (IntKind.i64.wrap (s1 + (IntKind.i64.wrap (1 - ((y22).1))))) else s2) (IntKind.i64.wrap (s3 + 1)))) else (bif decide (x13.op ≤ 4) then (bif decide (s1 < ((y22).1)) then (some (.ret ((-1), (-1)))) else (code_lies_L0 n v0_l k4 (IntKind.i64.wrap (s1 + (IntKind.i64.wrap (1 - ((y22).1))))) (if s2 < (IntKind.i64.wrap (s1 + (IntKind.i64.wrap (1 - ((y22).1))))) then (IntKind.i64.wrap (s1 + (IntKind.i64.wrap (1 - ((y22).1))))) else s2) (IntKind.i64.wrap (s3 + 1)))) else (some (.ret ((-1), (-1)))))) else (bif (y22).2 then (bif decide (s1 < ((y22).1)) then (some (.ret ((-1), (-1)))) else (code_lies_L0 n v0_l k4 (IntKind.i64.wrap (s1 + (IntKind.i64.wrap (1 - ((y22).1))))) (if s2 < (IntKind.i64.wrap (s1 + (IntKind.i64.wrap (1 - ((y22).1))))) then (IntKind.i64.wrap (s1 + (IntKind.i64.wrap (1 - ((y22).1))))) else s2) (IntKind.i64.wrap (s3 + 1)))) else (some (.ret ((-1), (-1)))))) | .c7 y23 => (bif decide (1 ≤ x13.op) then (bif (y23).2 then (bif decide (s1 < ((y23).1)) then (some (.ret ((-1), (-1)))) else (code_lies_L0 n v0_l k4 (IntKind.i64.wrap (s1 + (IntKind.i64.wrap (1 - ((y23).1))))) (if s2 < (IntKind.i64.wrap (s1 + (IntKind.i64.wrap (1 - ((y23).1))))) then (IntKind.i64.wrap (s1 + (IntKind.i64.wrap (1 - ((y23).1))))) else s2) (IntKind.i64.wrap (s3 + 1)))) else (bif decide (x13.op ≤ 4) then (bif decide (s1 < ((y23).1)) then (some (.ret ((-1), (-1)))) else (code_lies_L0 n v0_l k4 (IntKind.i64.wrap (s1 + (IntKind.i64.wrap (1 - ((y23).1))))) (if s2 < (IntKind.i64.wrap (s1 + (IntKind.i64.wrap (1 - ((y23).1))))) then (IntKind.i64.wrap (s1 + (IntKind.i64.wrap (1 - ((y23).1))))) else s2) (IntKind.i64.wrap (s3 + 1)))) else (some (.ret ((-1), (-1)))))) else (bif (y23).2 then (bif decide (s1 < ((y23).1)) then (some (.ret ((-1), (-1)))) else (code_lies_L0 n v0_l k4 (IntKind.i64.wrap (s1 + (IntKind.i64.wrap (1 - ((y23).1))))) (if s2 < (IntKind.i64.wrap (s1 + (IntKind.i64.wrap (1 - ((y23).1))))) then (IntKind.i64.wrap (s1 + (IntKind.i64.wrap (1 - ((y23).1))))) else s2) (IntKind.i64.wrap (s3 + 1)))) else (some (.ret ((-1), (-1)))))) | .c8 y24 => (bif decide (1 ≤ x13.op) then (bif (y24).2 then (bif decide (s1 < ((y24).1)) then (some (.ret ((-1), (-1)))) else (code_lies_L0 n v0_l k4 (IntKind.i64.wrap (s1 + (IntKind.i64.wrap (1 - ((y24).1))))) (if s2 < (IntKind.i64.wrap (s1 + (IntKind.i64.wrap (1 - ((y24).1))))) then (IntKind.i64.wrap (s1 + (IntKind.i64.wrap (1 - ((y24).1))))) else s2) (IntKind.i64.wrap (s3 + 1)))) else (bif decide (x13.op ≤ 4) then (bif decide (s1 < ((y24).1)) then (some (.ret ((-1), (-1)))) else (code_lies_L0 n v0_l k4 (IntKind.i64.wrap (s1 + (IntKind.i64.wrap (1 - ((y24).1))))) (if s2 < (IntKind.i64.wrap (s1 + (IntKind.i64.wrap (1 - ((y24).1))))) then (IntKind.i64.wrap (s1 + (IntKind.i64.wrap (1 - ((y24).1))))) else s2) (IntKind.i64.wrap (s3 + 1)))) else (some (.ret ((-1), (-1)))))) else (bif (y24).2 then (bif decide (s1 < ((y24).1)) then (some (.ret ((-1), (-1)))) else (code_lies_L0 n v0_l k4 (IntKind.i64.wrap (s1 + (IntKind.i64.wrap (1 - ((y24).1))))) (if s2 < (IntKind.i64.wrap (s1 + (IntKind.i64.wrap (1 - ((y24).1))))) then (IntKind.i64.wrap (s1 + (IntKind.i64.wrap (1 - ((y24).1))))) else s2) (IntKind.i64.wrap (s3 + 1)))) else (some (.ret ((-1), (-1)))))) | .c9 y25 => (bif decide (1 ≤ x13.op) then (bif (y25).2 then (bif decide (s1 < ((y25).1)) then (some (.ret ((-1), (-1)))) else (code_lies_L0 n v0_l k4 (IntKind.i64.wrap (s1 + (IntKind.i64.wrap (1 - ((y25).1))))) (if s2 < (IntKind.i64.wrap (s1 + (IntKind.i64.wrap (1 - ((y25).1))))) then (IntKind.i64.wrap (s1 + (IntKind.i64.wrap (1 - ((y25).1))))) else s2) (IntKind.i64.wrap (s3 + 1)))) else (bif decide (x13.op ≤ 4) then (bif decide (s1 < ((y25).1)) then (some (.ret ((-1), (-1)))) else (code_lies_L0 n v0_l k4 (IntKind.i64.wrap (s1 + (IntKind.i64.wrap (1 - ((y25).1))))) (if s2 < (IntKind.i64.wrap (s1 + (IntKind.i64.wrap (1 - ((y25).1))))) then (IntKind.i64.wrap (s1 + (IntKind.i64.wrap (1 - ((y25).1))))) else s2) (IntKind.i64.wrap (s3 + 1)))) else (some (.ret ((-1), (-1)))))) else (bif (y25).2 then (bif decide (s1 < ((y25).1)) then (some (.ret ((-1), (-1)))) else (code_lies_L0 n v0_l k4 (IntKind.i64.wrap (s1 + (IntKind.i64.wrap (1 - ((y25).1))))) (if s2 < (IntKind.i64.wrap (s1 + (IntKind.i64.wrap (1 - ((y25).1))))) then (IntKind.i64.wrap (s1 + (IntKind.i64.wrap (1 - ((y25).1))))) else s2) (IntKind.i64.wrap (s3 + 1)))) else (some (.ret ((-1), (-1)))))) | .c10 y26 => (bif decide (1 ≤ x13.op) then (bif (y26).2 then (bif decide (s1 < ((y26).1)) then (some (.ret ((-1), (-1)))) else (code_lies_L0 n v0_l k4 (IntKind.i64.wrap (s1 + (IntKind.i64.wrap (1 - ((y26).1))))) (if s2 < (IntKind.i64.wrap (s1 + (IntKind.i64.wrap (1 - ((y26).1))))) then (IntKind.i64.wrap (s1 + (IntKind.i64.wrap (1 - ((y26).1))))) else s2) (IntKind.i64.wrap (s3 + 1)))) else (bif decide (x13.op ≤ 4) then (bif decide (s1 < ((y26).1)) then (some (.ret ((-1), (-1)))) else (code_lies_L0 n v0_l k4 (IntKind.i64.wrap (s1 + (IntKind.i64.wrap (1 - ((y26).1))))) (if s2 < (IntKind.i64.wrap (s1 + (IntKind.i64.wrap (1 - ((y26).1))))) then (IntKind.i64.wrap (s1 + (IntKind.i64.wrap (1 - ((y26).1))))) else s2) (IntKind.i64.wrap (s3 + 1)))) else (some (.ret ((-1), (-1)))))) else (bif (y26).2 then (bif decide (s1 < ((y26).1)) then (some (.ret ((-1), (-1)))) else (code_lies_L0 n v0_l k4 (IntKind.i64.wrap (s1 + (IntKind.i64.wrap (1 - ((y26).1))))) (if s2 < (IntKind.i64.wrap (s1 + (IntKind.i64.wrap (1 - ((y26).1))))) then (IntKind.i64.wrap (s1 + (IntKind.i64.wrap (1 - ((y26).1))))) else s2) (IntKind.i64.wrap (s3 + 1)))) else (some (.ret ((-1), (-1))))))))) else (some (.out (s1, s2))))
def m_code_lies : Nat → (List OpS) → Option (Int × Int)
  | 0, _ => none
  | n+1, v0_l => ((code_lies_L0 n v0_l n 0 0 0).bind fun o11 => match o11 with | .out (x105, x106) => (some (x105, x106)) | .ret v => some v)

def m_code_Depth : Nat → (List OpS) → Option Int
  | 0, _ => none
  | n+1, v0_l => ((m_code_lies n v0_l).bind fun y1 => (some ((y1).2)))

def code_Right_L0 (n : Nat)  (v0_l : (List OpS)) (v1_regs : (List Int)) (v2_own : Int) (v3_locs : Int) : Nat → Int → Option (LR Unit Bool)
  | 0, _ => none
  | k2+1, s1 => (bif decide (s1 < (((v0_l).length : Nat) : Int)) then ((idx v0_l s1).bind fun x11 => (bif (x11.op == 1) then (bif decide (x11.n < 0) then (some (.ret false)) else (bif decide (10000 ≤ x11.n) then (some (.ret false)) else (code_Right_L0 n v0_l v1_regs v2_own v3_locs k2 (IntKind.i64.wrap (s1 + 1))))) else (bif (x11.op == 2) then (bif decide (x11.n < 0) then (some (.ret false)) else (bif decide (v2_own ≤ x11.n) then (some (.ret false)) else (code_Right_L0 n v0_l v1_regs v2_own v3_locs k2 (IntKind.i64.wrap (s1 + 1))))) else (bif (x11.op == 3) then (bif decide (x11.n < 0) then (some (.ret false)) else (bif decide (v3_locs ≤ x11.n) then (some (.ret false)) else (code_Right_L0 n v0_l v1_regs v2_own v3_locs k2 (IntKind.i64.wrap (s1 + 1))))) else (bif (x11.op == 4) then (bif decide (0 ≤ x11.t) then (bif decide (x11.t < (((v1_regs).length : Nat) : Int)) then ((idx v1_regs x11.t).bind fun x24 => (bif decide (x11.n < 0) then (some (.ret false)) else (bif decide (x24 ≤ x11.n) then (some (.ret false)) else (code_Right_L0 n v0_l v1_regs v2_own v3_locs k2 (IntKind.i64.wrap (s1 + 1)))))) else (bif decide (x11.n < 0) then (some (.ret false)) else (bif decide (0 ≤ x11.n) then (some (.ret false)) else (code_Right_L0 n v0_l v1_regs v2_own v3_locs k2 (IntKind.i64.wrap (s1 + 1)))))) else (bif decide (x11.n < 0) then (some (.ret false)) else (bif decide (0 ≤ x11.n) then (some (.ret false)) else (code_Right_L0 n v0_l v1_regs v2_own v3_locs k2 (IntKind.i64.wrap (s1 + 1)))))) else (code_Right_L0 n v0_l v1_regs v2_own v3_locs k2 (IntKind.i64.wrap (s1 + 1)))))))) else (some (.out ())))
def m_code_Right : Nat → (List OpS) → (List Int) → Int → Int → Option Bool
  | 0, _, _, _, _ => none
  | n+1, v0_l, v1_regs, v2_own, v3_locs => ((code_Right_L0 n v0_l v1_regs v2_own v3_locs n 0).bind fun o9 => match o9 with | .out _ => ((m_code_lies n v0_l).bind fun y32 => (some (((y32).1) == 1))) | .ret v => some v)

def m_law06_CodeRows : Nat → (List OpS) → Int → Int → Option Bool
  | 0, _, _, _ => none
  | n+1, v0_l, v1_own, v2_locs => (bif decide (400 < (((v0_l).length : Nat) : Int)) then ((m_law06_known n ).bind fun y2 => (some y2)) else ((m_code_Right n v0_l ([] : List Int) (IntKind.i64.wrap (v1_own)) (IntKind.i64.wrap (v2_locs))).bind fun y4 => (bif y4 then (bif decide (((([] : List OpS)).length + (v0_l).length) * 25 ≤ 140737488355328) then (bif decide ((((([] : List OpS) ++ v0_l)).length + 1) * 25 ≤ 140737488355328) then ((m_code_Right n v0_l ([3] : List Int) (IntKind.i64.wrap ((IntKind.i64.wrap (v1_own)) + 1)) (IntKind.i64.wrap ((IntKind.i64.wrap (v2_locs)) + 2))).bind fun y13 => (bif y13 then ((m_code_Right n ((([] : List OpS) ++ v0_l) ++ ([(⟨1, 0, 0⟩ : OpS)] : List OpS)) ([] : List Int) (IntKind.i64.wrap (v1_own)) (IntKind.i64.wrap (v2_locs))).bind fun y16 => (bif y16 then (some false) else ((m_code_Depth n ((([] : List OpS) ++ v0_l) ++ ([(⟨1, 0, 0⟩ : OpS)] : List OpS))).bind fun y19 => ((m_code_Depth n v0_l).bind fun y21 => (bif decide (y21 ≤ y19) then (bif decide (0 < (((v0_l).length : Nat) : Int)) then ((m_law06_known n ).bind fun y25 => (some y25)) else (some false)) else (some false)))))) else (some false))) else none) else none) else ((m_law06_known n ).bind fun y27 => (some y27)))))

end Go.Proofs.Ytmnnkeejgkhgpaa
end

section
namespace Go.Proofs.Ytmnnkeejgkhgpaa
set_option linter.unusedVariables false
set_option linter.unusedSimpArgs false

theorem wrap_one (k : Nat) (h : k < 4611686018427387904) : IntKind.i64.wrap ((k : Int) + 1) = ((k + 1 : Nat) : Int) := wrap_succ k (by omega)
theorem bif_decide {α : Type} {p : Prop} [Decidable p] (h : p) (a b : α) : (bif decide p then a else b) = a := by rw [decide_eq_true h]; rfl
theorem bif_not {α : Type} {p : Prop} [Decidable p] (h : ¬ p) (a b : α) : (bif decide p then a else b) = b := by rw [decide_eq_false h]; rfl
theorem idx_of {α : Type} {l : List α} {i : Int} (h0 : 0 ≤ i) : idx l i = l[i.toNat]? := by unfold idx; rw [decide_eq_true h0]; rfl
end Go.Proofs.Ytmnnkeejgkhgpaa
end

section
namespace Go.Proofs.Ytmnnkeejgkhgpaa
set_option linter.unusedVariables false
set_option linter.unusedSimpArgs false

/-- A loop over a row. -/
theorem loop_list {α σ ρ : Type} (l : List α) (L : Nat → Nat → σ → Option ρ) (F : List α → σ → Option ρ) (Inv : Nat → σ → Prop)
    (h0 : ∀ k s, Inv l.length s → L (k + 1) l.length s = F [] s)
    (h1 : ∀ k i s x, i < l.length → l[i]? = some x → Inv i s → (∀ s', Inv (i + 1) s' → L k (i + 1) s' = F (l.drop (i + 1)) s') → L (k + 1) i s = F (x :: l.drop (i + 1)) s) :
    ∀ (m k i : Nat) (s : σ), i + m = l.length → m < k → Inv i s → L k i s = F (l.drop i) s := by
  intro m
  induction m with
  | zero =>
    intro k i s hi hk hs
    obtain ⟨k, rfl⟩ : ∃ j, k = j + 1 := ⟨k - 1, by omega⟩
    obtain rfl : i = l.length := by omega
    rw [h0 k s hs, List.drop_length]
  | succ m ih =>
    intro k i s hi hk hs
    obtain ⟨k, rfl⟩ : ∃ j, k = j + 1 := ⟨k - 1, by omega⟩
    have hlt : i < l.length := by omega
    rw [h1 k i s l[i] hlt (List.getElem?_eq_getElem hlt) hs (fun s' hs' => ih k (i + 1) s' (by omega) (by omega) hs'), List.drop_eq_getElem_cons hlt]
theorem loop_list0 {α σ ρ : Type} (l : List α) (L : Nat → Nat → σ → Option ρ) (F : List α → σ → Option ρ) (Inv : Nat → σ → Prop) {k : Nat} {s : σ} (hk : l.length < k) (hs : Inv 0 s)
    (h0 : ∀ k s, Inv l.length s → L (k + 1) l.length s = F [] s)
    (h1 : ∀ k i s x, i < l.length → l[i]? = some x → Inv i s → (∀ s', Inv (i + 1) s' → L k (i + 1) s' = F (l.drop (i + 1)) s') → L (k + 1) i s = F (x :: l.drop (i + 1)) s) :
    L k 0 s = F l s := loop_list l L F Inv h0 h1 l.length k 0 s (by omega) hk hs
theorem idx_some {α : Type} {l : List α} {i : Nat} {x : α} (h : l[i]? = some x) : idx l (i : Int) = some x := by rw [idx_nat, h]

theorem op_cases (op : Int) : op < 1 ∨ 15 ≤ op ∨ op = 1 ∨ op = 2 ∨ op = 3 ∨ op = 4 ∨ op = 5 ∨ op = 6 ∨ op = 7 ∨ op = 8 ∨ op = 9 ∨ op = 10 ∨ op = 11 ∨ op = 12 ∨ op = 13 ∨ op = 14 := by omega
theorem bif_and {α : Type} (p q : Prop) [Decidable p] [Decidable q] (a b : α) : (bif decide (p ∧ q) then a else b) = bif decide p then bif decide q then a else b else b := by
  by_cases hp : p <;> by_cases hq : q <;> simp [hp, hq]
theorem bif_flip {α : Type} {p q : Prop} [Decidable p] [Decidable q] (h : p ↔ ¬ q) (a b : α) : (bif decide p then a else b) = bif decide q then b else a := by
  by_cases hq : q
  · have : ¬ p := fun hp => h.1 hp hq
    simp [this, hq]
  · have : p := h.2 hq
    simp [this, hq]
theorem bif_band {α : Type} (c d : Bool) (a b : α) : (bif c && d then a else b) = bif c then bif d then a else b else b := by cases c <;> rfl
theorem two_ne {α : Type} (n lim : Int) (a b : α) : (bif decide (n < 0) then b else bif decide (lim ≤ n) then b else a) = bif decide (0 ≤ n ∧ n < lim) then a else b := by
  rw [bif_and, bif_flip (p := 0 ≤ n) (q := n < 0) (by omega), bif_flip (p := n < lim) (q := lim ≤ n) (by omega)]
theorem two_none {α : Type} (n : Int) (a b : α) : (bif decide (n < 0) then b else bif decide (0 ≤ n) then b else a) = b := by
  rw [two_ne]; by_cases h : 0 ≤ n ∧ n < 0
  · omega
  · rw [bif_not h]
theorem u8_range {a : Int} (h : (Lit.int .u8 a).wf = true) : 0 ≤ a ∧ a ≤ 255 := by simpa [Lit.wf, IntKind.min, IntKind.max, IntKind.bits, IntKind.signed] using h
end Go.Proofs.Ytmnnkeejgkhgpaa
end

section
namespace Go.Proofs.Ytmnnkeejgkhgpaa
set_option linter.unusedVariables false
set_option linter.unusedSimpArgs false

theorem known06 : m_law06_known 999 = some true := by decide +kernel

/-- What an operator takes. -/
def takes (op : Int) : Int := if 1 ≤ op ∧ op ≤ 4 then 0 else if op = 5 then 1 else if 6 ≤ op ∧ op ≤ 14 then 2 else 1000000
def liesF : List OpS → Int × Int → Int × Int
  | [], s => s
  | x :: l, s => if s.1 < takes x.op then (-1, -1) else liesF l (s.1 + (1 - takes x.op), if s.2 < s.1 + (1 - takes x.op) then s.1 + (1 - takes x.op) else s.2)
def out2 (r : LR (Int × Int) (Int × Int)) : Int × Int := match r with
  | .out x => x
  | .ret x => x
def yv : R_code_of → Int × Bool
  | .c0 x | .c1 x | .c2 x | .c3 x | .c4 x | .c5 x | .c6 x | .c7 x | .c8 x | .c9 x | .c10 x => x
theorem of_yv (n : Nat) (op : Int) : ∃ y, m_code_of (n + 1) op = some y ∧ yv y = (if 1 ≤ op ∧ op ≤ 4 ∨ op < 5 ∨ 15 ≤ op then 0 else takes op, decide (5 ≤ op ∧ op ≤ 14)) := by
  rcases op_cases op with h | h | h | h | h | h | h | h | h | h | h | h | h | h | h | h
  · refine ⟨.c0 (0, false), by rw [m_code_of, bif_decide (by omega)], ?_⟩
    rw [if_pos (by omega), decide_eq_false (by omega)]; rfl
  · refine ⟨.c0 (0, false), by rw [m_code_of, bif_not (by omega), bif_decide (by omega)], ?_⟩
    rw [if_pos (by omega), decide_eq_false (by omega)]; rfl
  all_goals subst h; exact ⟨_, rfl, by decide⟩
theorem lies_step (n : Nat) (l : List OpS) (k : Nat) (s1 s2 s3 : Int) : code_lies_L0 n l (k + 1) s1 s2 s3 = (bif decide (s3 < ((l.length : Nat) : Int)) then ((idx l s3).bind fun x => ((m_code_of n x.op).bind fun y =>
    (bif decide (1 ≤ x.op) && decide (x.op ≤ 4) || (yv y).2 then bif decide (s1 < (yv y).1) then some (.ret (-1, -1)) else code_lies_L0 n l k (IntKind.i64.wrap (s1 + (IntKind.i64.wrap (1 - (yv y).1)))) (if s2 < (IntKind.i64.wrap (s1 + (IntKind.i64.wrap (1 - (yv y).1)))) then (IntKind.i64.wrap (s1 + (IntKind.i64.wrap (1 - (yv y).1)))) else s2) (IntKind.i64.wrap (s3 + 1)) else some (.ret (-1, -1))))) else (some (.out (s1, s2)))) := by
  rw [code_lies_L0]
  congr 1
  refine congrArg _ (funext fun x => congrArg _ (funext fun y => ?_))
  cases y <;> rename_i x2 <;> obtain ⟨a, b⟩ := x2 <;> cases b <;> cases decide (1 ≤ x.op) <;> cases decide (x.op ≤ 4) <;> rfl
theorem lies_L (n : Nat) (l : List OpS) (hl : l.length < 1000000) {k : Nat} (hk : l.length < k) : (code_lies_L0 (n + 1) l k 0 0 0).map out2 = some (liesF l (0, 0)) := by
  refine loop_list0 l (fun k i s => (code_lies_L0 (n + 1) l k s.1 s.2 (i : Int)).map out2) (fun l s => some (liesF l s)) (fun i s => 0 ≤ s.1 ∧ s.1 ≤ i ∧ 0 ≤ s.2 ∧ s.2 ≤ i) (s := (0, 0)) hk (by simp) ?_ ?_
  · intro k s hs
    rw [lies_step, bif_not (by omega)]; rfl
  · rintro k i ⟨a, b⟩ x hi hx ⟨h1, h2, h3, h4⟩ ih
    dsimp only at h1 h2 h3 h4 ⊢
    have hlt : (i : Int) < (l.length : Int) := by omega
    obtain ⟨y, e1, e2⟩ := of_yv n x.op
    rw [lies_step, bif_decide hlt, idx_some hx, wrap_one i (by omega)]
    simp only [Option.bind_some, liesF, e1, e2]
    by_cases c : 1 ≤ x.op ∧ x.op ≤ 14
    · have ht : takes x.op = 0 ∧ x.op ≤ 4 ∨ (takes x.op = 1 ∨ takes x.op = 2) ∧ 5 ≤ x.op := by unfold takes; split <;> (try split) <;> (try split) <;> omega
      have ct : (if 1 ≤ x.op ∧ x.op ≤ 4 ∨ x.op < 5 ∨ 15 ≤ x.op then 0 else takes x.op) = takes x.op := by split <;> omega
      have c2 : (decide (1 ≤ x.op) && decide (x.op ≤ 4) || decide (5 ≤ x.op ∧ x.op ≤ 14)) = true := by simp; omega
      rw [ct, c2, cond_true]
      by_cases c3 : a < takes x.op
      · rw [bif_decide c3, if_pos c3]; rfl
      · rw [bif_not c3, if_neg c3, wrap64 (n := 1 - takes x.op) (by omega), wrap64 (by omega)]
        have hm : 0 ≤ (if b < a + (1 - takes x.op) then a + (1 - takes x.op) else b) ∧ (if b < a + (1 - takes x.op) then a + (1 - takes x.op) else b) ≤ ((i + 1 : Nat) : Int) := by split <;> omega
        exact ih (_, _) ⟨by omega, by omega, hm.1, hm.2⟩
    · have c2 : (decide (1 ≤ x.op) && decide (x.op ≤ 4) || decide (5 ≤ x.op ∧ x.op ≤ 14)) = false := by simp; omega
      have ht : takes x.op = 1000000 := by unfold takes; repeat' split
                                           all_goals omega
      rw [c2, cond_false, if_pos (by omega)]; rfl
theorem lies_m (n : Nat) (l : List OpS) (hl : l.length < 1000000) (hn : l.length + 2 < n) : m_code_lies n l = some (liesF l (0, 0)) := by
  obtain ⟨n, rfl⟩ : ∃ j, n = j + 2 := ⟨n - 2, by omega⟩
  have := lies_L n l hl (k := n + 1) (by omega)
  obtain ⟨r, h1, h2⟩ := Option.map_eq_some_iff.1 this
  rw [m_code_lies, h1]
  cases r with
  | out x => obtain ⟨a, b⟩ := x; exact congrArg some h2
  | ret x => exact congrArg some h2
theorem depth_m (n : Nat) (l : List OpS) (hl : l.length < 1000000) (hn : l.length + 3 < n) : m_code_Depth n l = some (liesF l (0, 0)).2 := by
  obtain ⟨n, rfl⟩ : ∃ j, n = j + 1 := ⟨n - 1, by omega⟩
  rw [m_code_Depth, lies_m n l hl (by omega)]; rfl

/-- May an operation stand so? -/
def opOk (regs : List Int) (own locs : Int) (x : OpS) : Bool :=
  if x.op = 1 then decide (0 ≤ x.n ∧ x.n < 10000) else if x.op = 2 then decide (0 ≤ x.n ∧ x.n < own) else if x.op = 3 then decide (0 ≤ x.n ∧ x.n < locs)
  else if x.op = 4 then (if 0 ≤ x.t then match regs[x.t.toNat]? with | some r => decide (0 ≤ x.n ∧ x.n < r) | none => false else false) else true
def codeOk (l : List OpS) (regs : List Int) (own locs : Int) : Bool := l.all (opOk regs own locs) && decide ((liesF l (0, 0)).1 = 1)
theorem cr_L (n : Nat) (l : List OpS) (regs : List Int) (own locs : Int) (hl : l.length < 1000000) {k : Nat} (hk : l.length < k) : code_Right_L0 n l regs own locs k 0 = bif l.all (opOk regs own locs) then some (.out ()) else some (.ret false) := by
  refine loop_list0 l (fun k i (_ : Unit) => code_Right_L0 n l regs own locs k (i : Int)) (fun l _ => bif l.all (opOk regs own locs) then some (.out ()) else some (.ret false)) (fun _ _ => True) (s := ()) hk trivial ?_ ?_
  · intro k s hs
    rw [code_Right_L0, bif_not (by omega)]; rfl
  · rintro k i _ x hi hx _ ih
    have hlt : (i : Int) < (l.length : Int) := by omega
    have ih := ih () trivial
    rw [code_Right_L0, bif_decide hlt, idx_some hx, wrap_one i (by omega)]
    simp only [Option.bind_some, List.all_cons, ih, two_ne, two_none, bif_band]
    generalize (bif List.all (List.drop (i + 1) l) (opOk regs own locs) then some (LR.out ()) else some (LR.ret false)) = r
    unfold opOk
    by_cases c1 : x.op = 1
    · rw [if_pos c1, c1]; rfl
    by_cases c2 : x.op = 2
    · rw [if_neg c1, if_pos c2, c2]; rfl
    by_cases c3 : x.op = 3
    · rw [if_neg c1, if_neg c2, if_pos c3, c3]; rfl
    rw [if_neg c1, if_neg c2, if_neg c3, beq_eq_false_iff_ne.2 c1, beq_eq_false_iff_ne.2 c2, beq_eq_false_iff_ne.2 c3]
    by_cases c4 : x.op = 4
    · rw [if_pos c4, c4]
      by_cases g0 : 0 ≤ x.t
      · rw [if_pos g0]
        by_cases g1 : x.t < (regs.length : Int)
        · rw [idx_of g0, List.getElem?_eq_getElem (by omega)]
          simp only [g0, g1, decide_true, cond_true, cond_false, Option.bind_some, beq_self_eq_true]
        · rw [List.getElem?_eq_none (by omega)]
          simp only [g0, g1, decide_true, decide_false, cond_true, cond_false, beq_self_eq_true]
          exact bif_not (by omega) _ _
      · simp only [g0, decide_true, decide_false, cond_true, cond_false, beq_self_eq_true, if_false]
        exact bif_not (by omega) _ _
    · rw [if_neg c4, beq_eq_false_iff_ne.2 c4]; rfl
theorem cright_code (n : Nat) (l : List OpS) (regs : List Int) (own locs : Int) (hl : l.length < 1000000) (hn : l.length + 4 < n) : m_code_Right n l regs own locs = some (codeOk l regs own locs) := by
  obtain ⟨n, rfl⟩ : ∃ j, n = j + 1 := ⟨n - 1, by omega⟩
  rw [m_code_Right, cr_L n l regs own locs hl (by omega), codeOk]
  cases l.all (opOk regs own locs) with
  | false => rfl
  | true =>
    simp only [cond_true, Option.bind_some, lies_m n l hl (by omega), Bool.true_and]
    rfl

theorem liesF_snoc (x : OpS) : ∀ (l : List OpS) (s : Int × Int), (liesF l s).1 ≠ -1 → liesF (l ++ [x]) s = liesF [x] (liesF l s) := by
  intro l
  induction l with
  | nil => intro s _; rfl
  | cons y l ih =>
    intro s h
    rw [List.cons_append, liesF]
    rw [liesF] at h
    by_cases c : s.1 < takes y.op
    · rw [if_pos c] at h; exact absurd rfl h
    · rw [if_neg c] at h ⊢
      rw [ih _ h, liesF.eq_2 s, if_neg c]
theorem opOk_more {own locs : Int} {x : OpS} (h : opOk [] own locs x = true) : opOk [3] (own + 1) (locs + 2) x = true := by
  unfold opOk at h ⊢
  by_cases c1 : x.op = 1
  · rw [if_pos c1] at h ⊢; exact h
  rw [if_neg c1] at h ⊢
  by_cases c2 : x.op = 2
  · rw [if_pos c2] at h ⊢
    rw [decide_eq_true_eq] at h ⊢; omega
  rw [if_neg c2] at h ⊢
  by_cases c3 : x.op = 3
  · rw [if_pos c3] at h ⊢
    rw [decide_eq_true_eq] at h ⊢; omega
  rw [if_neg c3] at h ⊢
  by_cases c4 : x.op = 4
  · rw [if_pos c4] at h ⊢
    split at h <;> simp at h
  · rw [if_neg c4]
theorem codeRows_m (l : List OpS) (own locs : Int) (h1 : (Lit.int .u8 own).wf = true) (h2 : (Lit.int .u8 locs).wf = true) : m_law06_CodeRows 1000 l own locs = some true := by
  have b1 := u8_range h1
  have b2 := u8_range h2
  rw [m_law06_CodeRows, known06]
  by_cases c : 400 < (l.length : Int)
  · rw [bif_decide c]; rfl
  · rw [bif_not c, wrap64 (n := own) (by omega), wrap64 (n := locs) (by omega), wrap64 (n := own + 1) (by omega), wrap64 (n := locs + 2) (by omega)]
    simp only [List.nil_append, List.length_nil]
    rw [cright_code 999 l _ _ _ (by omega) (by omega), cright_code 999 l _ _ _ (by omega) (by omega), cright_code 999 (l ++ _) _ _ _ (by simp; omega) (by simp; omega), depth_m 999 (l ++ _) (by simp; omega) (by simp; omega), depth_m 999 l (by omega) (by omega)]
    simp only [Option.bind_some]
    cases hr : codeOk l [] own locs with
    | false => rfl
    | true =>
      simp only [codeOk, Bool.and_eq_true, decide_eq_true_eq, List.all_eq_true] at hr
      have e1 : codeOk l [3] (own + 1) (locs + 2) = true := by
        simp only [codeOk, Bool.and_eq_true, decide_eq_true_eq, List.all_eq_true]
        exact ⟨fun x hx => opOk_more (hr.1 x hx), hr.2⟩
      have e2 := liesF_snoc (⟨1, 0, 0⟩ : OpS) l (0, 0) (by rw [hr.2]; decide)
      have ht : takes 1 = 0 := by decide
      obtain ⟨m, hm⟩ : ∃ m, liesF l (0, 0) = (1, m) := ⟨(liesF l (0, 0)).2, by rw [← hr.2]⟩
      have e3 : liesF (l ++ [(⟨1, 0, 0⟩ : OpS)]) (0, 0) = (2, if m < 2 then 2 else m) := by rw [e2, hm]; rfl
      have e4 : codeOk (l ++ [(⟨1, 0, 0⟩ : OpS)]) [] own locs = false := by
        rw [codeOk, e3, decide_eq_false (by simp), Bool.and_false]
      have e5 : 0 < (l.length : Int) := by
        cases l with
        | nil => simp [liesF] at hm
        | cons a l => rw [List.length_cons]; omega
      rw [e1, e4, e3, hm]
      simp only [cond_true, cond_false, bif_decide (show (0 + l.length) * 25 ≤ 140737488355328 by omega), bif_decide (show (l.length + 1) * 25 ≤ 140737488355328 by omega), bif_decide e5]
      have e6 : m ≤ if m < 2 then 2 else m := by split <;> omega
      rw [bif_decide e6]
end Go.Proofs.Ytmnnkeejgkhgpaa
end

section
namespace Go.Proofs.Ytmnnkeejgkhgpaa
set_option linter.unusedVariables false
set_option linter.unusedSimpArgs false
set_option maxRecDepth 100000

set_option maxHeartbeats 4000000 in
theorem ok_code_of (n : Nat) : ∀ (v0_op : Int) (r : R_code_of), m_code_of n v0_op = some r → callN Try.prog HH XT n 37 [AV.int .i64 (v0_op)] [] = some ((match (r : R_code_of) with | .c0 y => AV.tup [AV.agg [AV.int .i64 ((y).1), AV.nilf], AV.bool ((y).2)] | .c1 y => AV.tup [AV.agg [AV.int .i64 ((y).1), AV.func 59 [] []], AV.bool ((y).2)] | .c2 y => AV.tup [AV.agg [AV.int .i64 ((y).1), AV.func 58 [] []], AV.bool ((y).2)] | .c3 y => AV.tup [AV.agg [AV.int .i64 ((y).1), AV.func 57 [] []], AV.bool ((y).2)] | .c4 y => AV.tup [AV.agg [AV.int .i64 ((y).1), AV.func 56 [] []], AV.bool ((y).2)] | .c5 y => AV.tup [AV.agg [AV.int .i64 ((y).1), AV.func 55 [] []], AV.bool ((y).2)] | .c6 y => AV.tup [AV.agg [AV.int .i64 ((y).1), AV.func 54 [] []], AV.bool ((y).2)] | .c7 y => AV.tup [AV.agg [AV.int .i64 ((y).1), AV.func 53 [] []], AV.bool ((y).2)] | .c8 y => AV.tup [AV.agg [AV.int .i64 ((y).1), AV.func 52 [] []], AV.bool ((y).2)] | .c9 y => AV.tup [AV.agg [AV.int .i64 ((y).1), AV.func 51 [] []], AV.bool ((y).2)] | .c10 y => AV.tup [AV.agg [AV.int .i64 ((y).1), AV.func 49 [] []], AV.bool ((y).2)]), (match (r : R_code_of) with | .c0 y => [] | .c1 y => [] | .c2 y => [] | .c3 y => [] | .c4 y => [] | .c5 y => [] | .c6 y => [] | .c7 y => [] | .c8 y => [] | .c9 y => [] | .c10 y => [])) := by
  cases n with
  | zero => intro v0_op r hm; exact absurd hm (by intro h; cases h)
  | succ n =>
    intro v0_op r hm
    rw [m_code_of] at hm
    refine callN_eq' Try.func37 (by rfl) rfl rfl (Nat.le_of_ble_eq_true rfl) ?_
    intro call hc
    conv => lhs; whnf
    refine bif_or2 hm ?_ ?_ <;> clear hm <;> intro hc1 hm
    · simp only [hc1, ls]
      conv => lhs; whnf
      have hq := Option.some.inj hm; clear hm; subst hq
      try simp only [ls]
      exact fq (y := some (AV.tup [AV.agg [AV.int .i64 (0), AV.nilf], AV.bool (false)], []))
    · simp only [hc1, ls]
      conv => lhs; whnf
      refine bif_or2 hm ?_ ?_ <;> clear hm <;> intro hc2 hm
      · simp only [hc2, ls]
        conv => lhs; whnf
        have hq := Option.some.inj hm; clear hm; subst hq
        try simp only [ls]
        exact fq (y := some (AV.tup [AV.agg [AV.int .i64 (0), AV.nilf], AV.bool (false)], []))
      · simp only [hc2, ls]
        conv => lhs; whnf
        refine bif_or2 hm ?_ ?_ <;> clear hm <;> intro hc3 hm
        · simp only [hc3, ls]
          conv => lhs; whnf
          have hq := Option.some.inj hm; clear hm; subst hq
          try simp only [ls]
          exact fq (y := some (AV.tup [AV.agg [AV.int .i64 (2), AV.func 59 [] []], AV.bool (true)], []))
        · simp only [hc3, ls]
          conv => lhs; whnf
          refine bif_or2 hm ?_ ?_ <;> clear hm <;> intro hc4 hm
          · simp only [hc4, ls]
            conv => lhs; whnf
            have hq := Option.some.inj hm; clear hm; subst hq
            try simp only [ls]
            exact fq (y := some (AV.tup [AV.agg [AV.int .i64 (2), AV.func 58 [] []], AV.bool (true)], []))
          · simp only [hc4, ls]
            conv => lhs; whnf
            refine bif_or2 hm ?_ ?_ <;> clear hm <;> intro hc5 hm
            · simp only [hc5, ls]
              conv => lhs; whnf
              have hq := Option.some.inj hm; clear hm; subst hq
              try simp only [ls]
              exact fq (y := some (AV.tup [AV.agg [AV.int .i64 (2), AV.func 57 [] []], AV.bool (true)], []))
            · simp only [hc5, ls]
              conv => lhs; whnf
              refine bif_or2 hm ?_ ?_ <;> clear hm <;> intro hc6 hm
              · simp only [hc6, ls]
                conv => lhs; whnf
                have hq := Option.some.inj hm; clear hm; subst hq
                try simp only [ls]
                exact fq (y := some (AV.tup [AV.agg [AV.int .i64 (2), AV.func 56 [] []], AV.bool (true)], []))
              · simp only [hc6, ls]
                conv => lhs; whnf
                refine bif_or2 hm ?_ ?_ <;> clear hm <;> intro hc7 hm
                · simp only [hc7, ls]
                  conv => lhs; whnf
                  have hq := Option.some.inj hm; clear hm; subst hq
                  try simp only [ls]
                  exact fq (y := some (AV.tup [AV.agg [AV.int .i64 (2), AV.func 55 [] []], AV.bool (true)], []))
                · simp only [hc7, ls]
                  conv => lhs; whnf
                  refine bif_or2 hm ?_ ?_ <;> clear hm <;> intro hc8 hm
                  · simp only [hc8, ls]
                    conv => lhs; whnf
                    have hq := Option.some.inj hm; clear hm; subst hq
                    try simp only [ls]
                    exact fq (y := some (AV.tup [AV.agg [AV.int .i64 (2), AV.func 54 [] []], AV.bool (true)], []))
                  · simp only [hc8, ls]
                    conv => lhs; whnf
                    refine bif_or2 hm ?_ ?_ <;> clear hm <;> intro hc9 hm
                    · simp only [hc9, ls]
                      conv => lhs; whnf
                      have hq := Option.some.inj hm; clear hm; subst hq
                      try simp only [ls]
                      exact fq (y := some (AV.tup [AV.agg [AV.int .i64 (2), AV.func 53 [] []], AV.bool (true)], []))
                    · simp only [hc9, ls]
                      conv => lhs; whnf
                      refine bif_or2 hm ?_ ?_ <;> clear hm <;> intro hc10 hm
                      · simp only [hc10, ls]
                        conv => lhs; whnf
                        have hq := Option.some.inj hm; clear hm; subst hq
                        try simp only [ls]
                        exact fq (y := some (AV.tup [AV.agg [AV.int .i64 (2), AV.func 52 [] []], AV.bool (true)], []))
                      · simp only [hc10, ls]
                        conv => lhs; whnf
                        refine bif_or2 hm ?_ ?_ <;> clear hm <;> intro hc11 hm
                        · simp only [hc11, ls]
                          conv => lhs; whnf
                          have hq := Option.some.inj hm; clear hm; subst hq
                          try simp only [ls]
                          exact fq (y := some (AV.tup [AV.agg [AV.int .i64 (2), AV.func 51 [] []], AV.bool (true)], []))
                        · simp only [hc11, ls]
                          conv => lhs; whnf
                          refine bif_or2 hm ?_ ?_ <;> clear hm <;> intro hc12 hm
                          · simp only [hc12, ls]
                            conv => lhs; whnf
                            have hq := Option.some.inj hm; clear hm; subst hq
                            try simp only [ls]
                            exact fq (y := some (AV.tup [AV.agg [AV.int .i64 (1), AV.func 49 [] []], AV.bool (true)], []))
                          · simp only [hc12, ls]
                            conv => lhs; whnf
                            refine bif_or2 hm ?_ ?_ <;> clear hm <;> intro hc13 hm
                            · simp only [hc13, ls]
                              conv => lhs; whnf
                              have hq := Option.some.inj hm; clear hm; subst hq
                              try simp only [ls]
                              exact fq (y := some (AV.tup [AV.agg [AV.int .i64 (0), AV.nilf], AV.bool (true)], []))
                            · simp only [hc13, ls]
                              conv => lhs; whnf
                              refine bif_or2 hm ?_ ?_ <;> clear hm <;> intro hc14 hm
                              · simp only [hc14, ls]
                                conv => lhs; whnf
                                have hq := Option.some.inj hm; clear hm; subst hq
                                try simp only [ls]
                                exact fq (y := some (AV.tup [AV.agg [AV.int .i64 (0), AV.nilf], AV.bool (true)], []))
                              · simp only [hc14, ls]
                                conv => lhs; whnf
                                refine bif_or2 hm ?_ ?_ <;> clear hm <;> intro hc15 hm
                                · simp only [hc15, ls]
                                  conv => lhs; whnf
                                  have hq := Option.some.inj hm; clear hm; subst hq
                                  try simp only [ls]
                                  exact fq (y := some (AV.tup [AV.agg [AV.int .i64 (0), AV.nilf], AV.bool (true)], []))
                                · simp only [hc15, ls]
                                  conv => lhs; whnf
                                  refine bif_or2 hm ?_ ?_ <;> clear hm <;> intro hc16 hm
                                  · simp only [hc16, ls]
                                    conv => lhs; whnf
                                    have hq := Option.some.inj hm; clear hm; subst hq
                                    try simp only [ls]
                                    exact fq (y := some (AV.tup [AV.agg [AV.int .i64 (0), AV.nilf], AV.bool (true)], []))
                                  · simp only [hc16, ls]
                                    conv => lhs; whnf
                                    refine bif_or2 hm ?_ ?_ <;> clear hm <;> intro hc17 hm
                                    · simp only [hc17, ls]
                                      conv => lhs; whnf
                                      have hq := Option.some.inj hm; clear hm; subst hq
                                      try simp only [ls]
                                      exact fq (y := some (AV.tup [AV.agg [AV.int .i64 (0), AV.nilf], AV.bool (true)], []))
                                    · cases hm
end Go.Proofs.Ytmnnkeejgkhgpaa
end

section
namespace Go.Proofs.Ytmnnkeejgkhgpaa
set_option linter.unusedVariables false
set_option linter.unusedSimpArgs false
set_option maxRecDepth 100000

set_option maxHeartbeats 4000000 in
theorem ok_code_lies (n : Nat) : ∀ (v0_l : (List OpS)) (r : (Int × Int)), m_code_lies n v0_l = some r → callN Try.prog HH XT n 41 [AV.sl 3 (List.map encOp (v0_l))] [] = some (AV.tup [AV.int .i64 ((r).1), AV.int .i64 ((r).2)], []) := by
  cases n with
  | zero => intro v0_l r hm; exact absurd hm (by intro h; cases h)
  | succ n =>
    intro v0_l r hm
    rw [m_code_lies] at hm
    refine callN_eq' Try.func41 (by rfl) rfl rfl (Nat.le_of_ble_eq_true rfl) ?_
    intro call hc
    conv => lhs; whnf
    refine bind_some2 hm ?_; clear hm; intro o11 ho11 hm
    refine rounds_sim (σ := (Int × Int × Int)) (τ := (Int × Int)) (ν := (Int × Int)) 0 (fun (s1, s2, s3) a5 => stOf 54 [(4, AV.int .i64 (s1)), (5, AV.int .i64 (s2)), (11, AV.sl 3 (List.map encOp (v0_l))), (12, AV.int .i64 ((((v0_l).length : Nat) : Int))), (13, AV.int .i64 (s3))]) (fun (s1, s2, s3) a5 => []) (fun (x105, x106) a104 => stOf 54 [(4, AV.int .i64 (x105)), (5, AV.int .i64 (x106))]) (fun (x105, x106) a104 => []) (fun v => (AV.tup [AV.int .i64 ((v).1), AV.int .i64 ((v).2)], [])) (fun k s => code_lies_L0 n v0_l k ((s).1) ((s).2.1) ((s).2.2)) (fun s => rfl) o11 ?_ n (0, 0, 0) (fun _ => 0) _ _ ho11 ?_ (by first | rfl | (simp only [ls, List.map_append, List.map_cons, List.map_nil, List.append_nil, List.length_set, length_copyL] <;> rfl)) (by first | rfl | (simp only [ls, List.map_append, List.map_cons, List.map_nil, List.append_nil, List.length_set, length_copyL] <;> rfl))
    · intro k4 ss a5 K6 cont7 hK8 hcont9 hm hr10
      obtain ⟨s1, s2, s3⟩ := ss
      replace hm : code_lies_L0 n v0_l (k4 + 1) s1 s2 s3 = some o11 := hm
      rw [code_lies_L0] at hm
      conv => lhs; whnf
      refine bif_or2 hm ?_ ?_ <;> clear hm <;> intro hc12 hm
      · simp only [hc12, ls]
        conv => lhs; whnf
        refine bind_some2 hm ?_; clear hm; intro x13 hx13 hm
        refine bif_pos (by first | exact idx_in hx13 | exact idx_in' hx13) ?_
        simp only [idx_nth (f := encOp) hx13, ls]
        conv => lhs; whnf
        refine bind_some2 hm ?_; clear hm; intro y14 hy14 hm
        cases y14 with
        | c0 y16 =>
          dsimp only at hm
          have hk15 : call false 37 [AV.int .i64 (x13.op)] [] = some (AV.tup [AV.agg [AV.int .i64 ((y16).1), AV.nilf], AV.bool ((y16).2)], []) := (hc _ _ _).trans (ok_code_of n x13.op (.c0 y16) hy14)
          try simp only [List.drop_zero, ls]
          first | simp only [hk15] | rewrite [hk15]
          try simp only [ls]
          conv => lhs; whnf
          refine bif_or2 hm ?_ ?_ <;> clear hm <;> intro hc27 hm
          · simp only [hc27, ls]
            conv => lhs; whnf
            refine bif_or2 hm ?_ ?_ <;> clear hm <;> intro hc28 hm
            · simp only [hc28, ls]
              conv => lhs; whnf
              refine bif_or2 hm ?_ ?_ <;> clear hm <;> intro hc29 hm
              · simp only [hc29, ls]
                conv => lhs; whnf
                have hq := Option.some.inj hm; clear hm; subst hq
                refine (hK8 _ _).trans ?_
                refine Eq.trans ?_ (Eq.symm (show _ = some _ from hr10))
                conv => lhs; whnf
                try simp only [ls]
                exact fq (y := some (AV.tup [AV.int .i64 ((-1)), AV.int .i64 ((-1))], []))
              · simp only [hc29, ls]
                conv => lhs; whnf
                exact cq (hcont9 (IntKind.i64.wrap (s1 + (IntKind.i64.wrap (1 - ((y16).1)))), (if s2 < (IntKind.i64.wrap (s1 + (IntKind.i64.wrap (1 - ((y16).1))))) then (IntKind.i64.wrap (s1 + (IntKind.i64.wrap (1 - ((y16).1))))) else s2), IntKind.i64.wrap (s3 + 1)) (fun _ => 0) hm)
            · simp only [hc28, ls]
              conv => lhs; whnf
              refine bif_or2 hm ?_ ?_ <;> clear hm <;> intro hc30 hm
              · simp only [hc30, ls]
                conv => lhs; whnf
                refine bif_or2 hm ?_ ?_ <;> clear hm <;> intro hc31 hm
                · simp only [hc31, ls]
                  conv => lhs; whnf
                  have hq := Option.some.inj hm; clear hm; subst hq
                  refine (hK8 _ _).trans ?_
                  refine Eq.trans ?_ (Eq.symm (show _ = some _ from hr10))
                  conv => lhs; whnf
                  try simp only [ls]
                  exact fq (y := some (AV.tup [AV.int .i64 ((-1)), AV.int .i64 ((-1))], []))
                · simp only [hc31, ls]
                  conv => lhs; whnf
                  exact cq (hcont9 (IntKind.i64.wrap (s1 + (IntKind.i64.wrap (1 - ((y16).1)))), (if s2 < (IntKind.i64.wrap (s1 + (IntKind.i64.wrap (1 - ((y16).1))))) then (IntKind.i64.wrap (s1 + (IntKind.i64.wrap (1 - ((y16).1))))) else s2), IntKind.i64.wrap (s3 + 1)) (fun _ => 0) hm)
              · simp only [hc30, ls]
                conv => lhs; whnf
                have hq := Option.some.inj hm; clear hm; subst hq
                refine (hK8 _ _).trans ?_
                refine Eq.trans ?_ (Eq.symm (show _ = some _ from hr10))
                conv => lhs; whnf
                try simp only [ls]
                exact fq (y := some (AV.tup [AV.int .i64 ((-1)), AV.int .i64 ((-1))], []))
          · simp only [hc27, ls]
            conv => lhs; whnf
            refine bif_or2 hm ?_ ?_ <;> clear hm <;> intro hc32 hm
            · simp only [hc32, ls]
              conv => lhs; whnf
              refine bif_or2 hm ?_ ?_ <;> clear hm <;> intro hc33 hm
              · simp only [hc33, ls]
                conv => lhs; whnf
                have hq := Option.some.inj hm; clear hm; subst hq
                refine (hK8 _ _).trans ?_
                refine Eq.trans ?_ (Eq.symm (show _ = some _ from hr10))
                conv => lhs; whnf
                try simp only [ls]
                exact fq (y := some (AV.tup [AV.int .i64 ((-1)), AV.int .i64 ((-1))], []))
              · simp only [hc33, ls]
                conv => lhs; whnf
                exact cq (hcont9 (IntKind.i64.wrap (s1 + (IntKind.i64.wrap (1 - ((y16).1)))), (if s2 < (IntKind.i64.wrap (s1 + (IntKind.i64.wrap (1 - ((y16).1))))) then (IntKind.i64.wrap (s1 + (IntKind.i64.wrap (1 - ((y16).1))))) else s2), IntKind.i64.wrap (s3 + 1)) (fun _ => 0) hm)
            · simp only [hc32, ls]
              conv => lhs; whnf
              have hq := Option.some.inj hm; clear hm; subst hq
              refine (hK8 _ _).trans ?_
              refine Eq.trans ?_ (Eq.symm (show _ = some _ from hr10))
              conv => lhs; whnf
              try simp only [ls]
              exact fq (y := some (AV.tup [AV.int .i64 ((-1)), AV.int .i64 ((-1))], []))
        | c1 y17 =>
          dsimp only at hm
          have hk15 : call false 37 [AV.int .i64 (x13.op)] [] = some (AV.tup [AV.agg [AV.int .i64 ((y17).1), AV.func 59 [] []], AV.bool ((y17).2)], []) := (hc _ _ _).trans (ok_code_of n x13.op (.c1 y17) hy14)
          try simp only [List.drop_zero, ls]
          first | simp only [hk15] | rewrite [hk15]
          try simp only [ls]
          conv => lhs; whnf
          refine bif_or2 hm ?_ ?_ <;> clear hm <;> intro hc34 hm
          · simp only [hc34, ls]
            conv => lhs; whnf
            refine bif_or2 hm ?_ ?_ <;> clear hm <;> intro hc35 hm
            · simp only [hc35, ls]
              conv => lhs; whnf
              refine bif_or2 hm ?_ ?_ <;> clear hm <;> intro hc36 hm
              · simp only [hc36, ls]
                conv => lhs; whnf
                have hq := Option.some.inj hm; clear hm; subst hq
                refine (hK8 _ _).trans ?_
                refine Eq.trans ?_ (Eq.symm (show _ = some _ from hr10))
                conv => lhs; whnf
                try simp only [ls]
                exact fq (y := some (AV.tup [AV.int .i64 ((-1)), AV.int .i64 ((-1))], []))
              · simp only [hc36, ls]
                conv => lhs; whnf
                exact cq (hcont9 (IntKind.i64.wrap (s1 + (IntKind.i64.wrap (1 - ((y17).1)))), (if s2 < (IntKind.i64.wrap (s1 + (IntKind.i64.wrap (1 - ((y17).1))))) then (IntKind.i64.wrap (s1 + (IntKind.i64.wrap (1 - ((y17).1))))) else s2), IntKind.i64.wrap (s3 + 1)) (fun _ => 0) hm)
            · simp only [hc35, ls]
              conv => lhs; whnf
              refine bif_or2 hm ?_ ?_ <;> clear hm <;> intro hc37 hm
              · simp only [hc37, ls]
                conv => lhs; whnf
                refine bif_or2 hm ?_ ?_ <;> clear hm <;> intro hc38 hm
                · simp only [hc38, ls]
                  conv => lhs; whnf
                  have hq := Option.some.inj hm; clear hm; subst hq
                  refine (hK8 _ _).trans ?_
                  refine Eq.trans ?_ (Eq.symm (show _ = some _ from hr10))
                  conv => lhs; whnf
                  try simp only [ls]
                  exact fq (y := some (AV.tup [AV.int .i64 ((-1)), AV.int .i64 ((-1))], []))
                · simp only [hc38, ls]
                  conv => lhs; whnf
                  exact cq (hcont9 (IntKind.i64.wrap (s1 + (IntKind.i64.wrap (1 - ((y17).1)))), (if s2 < (IntKind.i64.wrap (s1 + (IntKind.i64.wrap (1 - ((y17).1))))) then (IntKind.i64.wrap (s1 + (IntKind.i64.wrap (1 - ((y17).1))))) else s2), IntKind.i64.wrap (s3 + 1)) (fun _ => 0) hm)
              · simp only [hc37, ls]
                conv => lhs; whnf
                have hq := Option.some.inj hm; clear hm; subst hq
                refine (hK8 _ _).trans ?_
                refine Eq.trans ?_ (Eq.symm (show _ = some _ from hr10))
                conv => lhs; whnf
                try simp only [ls]
                exact fq (y := some (AV.tup [AV.int .i64 ((-1)), AV.int .i64 ((-1))], []))
          · simp only [hc34, ls]
            conv => lhs; whnf
            refine bif_or2 hm ?_ ?_ <;> clear hm <;> intro hc39 hm
            · simp only [hc39, ls]
              conv => lhs; whnf
              refine bif_or2 hm ?_ ?_ <;> clear hm <;> intro hc40 hm
              · simp only [hc40, ls]
                conv => lhs; whnf
                have hq := Option.some.inj hm; clear hm; subst hq
                refine (hK8 _ _).trans ?_
                refine Eq.trans ?_ (Eq.symm (show _ = some _ from hr10))
                conv => lhs; whnf
                try simp only [ls]
                exact fq (y := some (AV.tup [AV.int .i64 ((-1)), AV.int .i64 ((-1))], []))
              · simp only [hc40, ls]
                conv => lhs; whnf
                exact cq (hcont9 (IntKind.i64.wrap (s1 + (IntKind.i64.wrap (1 - ((y17).1)))), (if s2 < (IntKind.i64.wrap (s1 + (IntKind.i64.wrap (1 - ((y17).1))))) then (IntKind.i64.wrap (s1 + (IntKind.i64.wrap (1 - ((y17).1))))) else s2), IntKind.i64.wrap (s3 + 1)) (fun _ => 0) hm)
            · simp only [hc39, ls]
              conv => lhs; whnf
              have hq := Option.some.inj hm; clear hm; subst hq
              refine (hK8 _ _).trans ?_
              refine Eq.trans ?_ (Eq.symm (show _ = some _ from hr10))
              conv => lhs; whnf
              try simp only [ls]
              exact fq (y := some (AV.tup [AV.int .i64 ((-1)), AV.int .i64 ((-1))], []))
        | c2 y18 =>
          dsimp only at hm
          have hk15 : call false 37 [AV.int .i64 (x13.op)] [] = some (AV.tup [AV.agg [AV.int .i64 ((y18).1), AV.func 58 [] []], AV.bool ((y18).2)], []) := (hc _ _ _).trans (ok_code_of n x13.op (.c2 y18) hy14)
          try simp only [List.drop_zero, ls]
          first | simp only [hk15] | rewrite [hk15]
          try simp only [ls]
          conv => lhs; whnf
          refine bif_or2 hm ?_ ?_ <;> clear hm <;> intro hc41 hm
          · simp only [hc41, ls]
            conv => lhs; whnf
            refine bif_or2 hm ?_ ?_ <;> clear hm <;> intro hc42 hm
            · simp only [hc42, ls]
              conv => lhs; whnf
              refine bif_or2 hm ?_ ?_ <;> clear hm <;> intro hc43 hm
              · simp only [hc43, ls]
                conv => lhs; whnf
                have hq := Option.some.inj hm; clear hm; subst hq
                refine (hK8 _ _).trans ?_
                refine Eq.trans ?_ (Eq.symm (show _ = some _ from hr10))
                conv => lhs; whnf
                try simp only [ls]
                exact fq (y := some (AV.tup [AV.int .i64 ((-1)), AV.int .i64 ((-1))], []))
              · simp only [hc43, ls]
                conv => lhs; whnf
                exact cq (hcont9 (IntKind.i64.wrap (s1 + (IntKind.i64.wrap (1 - ((y18).1)))), (if s2 < (IntKind.i64.wrap (s1 + (IntKind.i64.wrap (1 - ((y18).1))))) then (IntKind.i64.wrap (s1 + (IntKind.i64.wrap (1 - ((y18).1))))) else s2), IntKind.i64.wrap (s3 + 1)) (fun _ => 0) hm)
            · simp only [hc42, ls]
              conv => lhs; whnf
              refine bif_or2 hm ?_ ?_ <;> clear hm <;> intro hc44 hm
              · simp only [hc44, ls]
                conv => lhs; whnf
                refine bif_or2 hm ?_ ?_ <;> clear hm <;> intro hc45 hm
                · simp only [hc45, ls]
                  conv => lhs; whnf
                  have hq := Option.some.inj hm; clear hm; subst hq
                  refine (hK8 _ _).trans ?_
                  refine Eq.trans ?_ (Eq.symm (show _ = some _ from hr10))
                  conv => lhs; whnf
                  try simp only [ls]
                  exact fq (y := some (AV.tup [AV.int .i64 ((-1)), AV.int .i64 ((-1))], []))
                · simp only [hc45, ls]
                  conv => lhs; whnf
                  exact cq (hcont9 (IntKind.i64.wrap (s1 + (IntKind.i64.wrap (1 - ((y18).1)))), (if s2 < (IntKind.i64.wrap (s1 + (IntKind.i64.wrap (1 - ((y18).1))))) then (IntKind.i64.wrap (s1 + (IntKind.i64.wrap (1 - ((y18).1))))) else s2), IntKind.i64.wrap (s3 + 1)) (fun _ => 0) hm)
              · simp only [hc44, ls]
                conv => lhs; whnf
                have hq := Option.some.inj hm; clear hm; subst hq
                refine (hK8 _ _).trans ?_
                refine Eq.trans ?_ (Eq.symm (show _ = some _ from hr10))
                conv => lhs; whnf
                try simp only [ls]
                exact fq (y := some (AV.tup [AV.int .i64 ((-1)), AV.int .i64 ((-1))], []))
          · simp only [hc41, ls]
            conv => lhs; whnf
            refine bif_or2 hm ?_ ?_ <;> clear hm <;> intro hc46 hm
            · simp only [hc46, ls]
              conv => lhs; whnf
              refine bif_or2 hm ?_ ?_ <;> clear hm <;> intro hc47 hm
              · simp only [hc47, ls]
                conv => lhs; whnf
                have hq := Option.some.inj hm; clear hm; subst hq
                refine (hK8 _ _).trans ?_
                refine Eq.trans ?_ (Eq.symm (show _ = some _ from hr10))
                conv => lhs; whnf
                try simp only [ls]
                exact fq (y := some (AV.tup [AV.int .i64 ((-1)), AV.int .i64 ((-1))], []))
              · simp only [hc47, ls]
                conv => lhs; whnf
                exact cq (hcont9 (IntKind.i64.wrap (s1 + (IntKind.i64.wrap (1 - ((y18).1)))), (if s2 < (IntKind.i64.wrap (s1 + (IntKind.i64.wrap (1 - ((y18).1))))) then (IntKind.i64.wrap (s1 + (IntKind.i64.wrap (1 - ((y18).1))))) else s2), IntKind.i64.wrap (s3 + 1)) (fun _ => 0) hm)
            · simp only [hc46, ls]
              conv => lhs; whnf
              have hq := Option.some.inj hm; clear hm; subst hq
              refine (hK8 _ _).trans ?_
              refine Eq.trans ?_ (Eq.symm (show _ = some _ from hr10))
              conv => lhs; whnf
              try simp only [ls]
              exact fq (y := some (AV.tup [AV.int .i64 ((-1)), AV.int .i64 ((-1))], []))
        | c3 y19 =>
          dsimp only at hm
          have hk15 : call false 37 [AV.int .i64 (x13.op)] [] = some (AV.tup [AV.agg [AV.int .i64 ((y19).1), AV.func 57 [] []], AV.bool ((y19).2)], []) := (hc _ _ _).trans (ok_code_of n x13.op (.c3 y19) hy14)
          try simp only [List.drop_zero, ls]
          first | simp only [hk15] | rewrite [hk15]
          try simp only [ls]
          conv => lhs; whnf
          refine bif_or2 hm ?_ ?_ <;> clear hm <;> intro hc48 hm
          · simp only [hc48, ls]
            conv => lhs; whnf
            refine bif_or2 hm ?_ ?_ <;> clear hm <;> intro hc49 hm
            · simp only [hc49, ls]
              conv => lhs; whnf
              refine bif_or2 hm ?_ ?_ <;> clear hm <;> intro hc50 hm
              · simp only [hc50, ls]
                conv => lhs; whnf
                have hq := Option.some.inj hm; clear hm; subst hq
                refine (hK8 _ _).trans ?_
                refine Eq.trans ?_ (Eq.symm (show _ = some _ from hr10))
                conv => lhs; whnf
                try simp only [ls]
                exact fq (y := some (AV.tup [AV.int .i64 ((-1)), AV.int .i64 ((-1))], []))
              · simp only [hc50, ls]
                conv => lhs; whnf
                exact cq (hcont9 (IntKind.i64.wrap (s1 + (IntKind.i64.wrap (1 - ((y19).1)))), (if s2 < (IntKind.i64.wrap (s1 + (IntKind.i64.wrap (1 - ((y19).1))))) then (IntKind.i64.wrap (s1 + (IntKind.i64.wrap (1 - ((y19).1))))) else s2), IntKind.i64.wrap (s3 + 1)) (fun _ => 0) hm)
            · simp only [hc49, ls]
              conv => lhs; whnf
              refine bif_or2 hm ?_ ?_ <;> clear hm <;> intro hc51 hm
              · simp only [hc51, ls]
                conv => lhs; whnf
                refine bif_or2 hm ?_ ?_ <;> clear hm <;> intro hc52 hm
                · simp only [hc52, ls]
                  conv => lhs; whnf
                  have hq := Option.some.inj hm; clear hm; subst hq
                  refine (hK8 _ _).trans ?_
                  refine Eq.trans ?_ (Eq.symm (show _ = some _ from hr10))
                  conv => lhs; whnf
                  try simp only [ls]
                  exact fq (y := some (AV.tup [AV.int .i64 ((-1)), AV.int .i64 ((-1))], []))
                · simp only [hc52, ls]
                  conv => lhs; whnf
                  exact cq (hcont9 (IntKind.i64.wrap (s1 + (IntKind.i64.wrap (1 - ((y19).1)))), (if s2 < (IntKind.i64.wrap (s1 + (IntKind.i64.wrap (1 - ((y19).1))))) then (IntKind.i64.wrap (s1 + (IntKind.i64.wrap (1 - ((y19).1))))) else s2), IntKind.i64.wrap (s3 + 1)) (fun _ => 0) hm)
              · simp only [hc51, ls]
                conv => lhs; whnf
                have hq := Option.some.inj hm; clear hm; subst hq
                refine (hK8 _ _).trans ?_
                refine Eq.trans ?_ (Eq.symm (show _ = some _ from hr10))
                conv => lhs; whnf
                try simp only [ls]
                exact fq (y := some (AV.tup [AV.int .i64 ((-1)), AV.int .i64 ((-1))], []))
          · simp only [hc48, ls]
            conv => lhs; whnf
            refine bif_or2 hm ?_ ?_ <;> clear hm <;> intro hc53 hm
            · simp only [hc53, ls]
              conv => lhs; whnf
              refine bif_or2 hm ?_ ?_ <;> clear hm <;> intro hc54 hm
              · simp only [hc54, ls]
                conv => lhs; whnf
                have hq := Option.some.inj hm; clear hm; subst hq
                refine (hK8 _ _).trans ?_
                refine Eq.trans ?_ (Eq.symm (show _ = some _ from hr10))
                conv => lhs; whnf
                try simp only [ls]
                exact fq (y := some (AV.tup [AV.int .i64 ((-1)), AV.int .i64 ((-1))], []))
              · simp only [hc54, ls]
                conv => lhs; whnf
                exact cq (hcont9 (IntKind.i64.wrap (s1 + (IntKind.i64.wrap (1 - ((y19).1)))), (if s2 < (IntKind.i64.wrap (s1 + (IntKind.i64.wrap (1 - ((y19).1))))) then (IntKind.i64.wrap (s1 + (IntKind.i64.wrap (1 - ((y19).1))))) else s2), IntKind.i64.wrap (s3 + 1)) (fun _ => 0) hm)
            · simp only [hc53, ls]
              conv => lhs; whnf
              have hq := Option.some.inj hm; clear hm; subst hq
              refine (hK8 _ _).trans ?_
              refine Eq.trans ?_ (Eq.symm (show _ = some _ from hr10))
              conv => lhs; whnf
              try simp only [ls]
              exact fq (y := some (AV.tup [AV.int .i64 ((-1)), AV.int .i64 ((-1))], []))
        | c4 y20 =>
          dsimp only at hm
          have hk15 : call false 37 [AV.int .i64 (x13.op)] [] = some (AV.tup [AV.agg [AV.int .i64 ((y20).1), AV.func 56 [] []], AV.bool ((y20).2)], []) := (hc _ _ _).trans (ok_code_of n x13.op (.c4 y20) hy14)
          try simp only [List.drop_zero, ls]
          first | simp only [hk15] | rewrite [hk15]
          try simp only [ls]
          conv => lhs; whnf
          refine bif_or2 hm ?_ ?_ <;> clear hm <;> intro hc55 hm
          · simp only [hc55, ls]
            conv => lhs; whnf
            refine bif_or2 hm ?_ ?_ <;> clear hm <;> intro hc56 hm
            · simp only [hc56, ls]
              conv => lhs; whnf
              refine bif_or2 hm ?_ ?_ <;> clear hm <;> intro hc57 hm
              · simp only [hc57, ls]
                conv => lhs; whnf
                have hq := Option.some.inj hm; clear hm; subst hq
                refine (hK8 _ _).trans ?_
                refine Eq.trans ?_ (Eq.symm (show _ = some _ from hr10))
                conv => lhs; whnf
                try simp only [ls]
                exact fq (y := some (AV.tup [AV.int .i64 ((-1)), AV.int .i64 ((-1))], []))
              · simp only [hc57, ls]
                conv => lhs; whnf
                exact cq (hcont9 (IntKind.i64.wrap (s1 + (IntKind.i64.wrap (1 - ((y20).1)))), (if s2 < (IntKind.i64.wrap (s1 + (IntKind.i64.wrap (1 - ((y20).1))))) then (IntKind.i64.wrap (s1 + (IntKind.i64.wrap (1 - ((y20).1))))) else s2), IntKind.i64.wrap (s3 + 1)) (fun _ => 0) hm)
            · simp only [hc56, ls]
              conv => lhs; whnf
              refine bif_or2 hm ?_ ?_ <;> clear hm <;> intro hc58 hm
              · simp only [hc58, ls]
                conv => lhs; whnf
                refine bif_or2 hm ?_ ?_ <;> clear hm <;> intro hc59 hm
                · simp only [hc59, ls]
                  conv => lhs; whnf
                  have hq := Option.some.inj hm; clear hm; subst hq
                  refine (hK8 _ _).trans ?_
                  refine Eq.trans ?_ (Eq.symm (show _ = some _ from hr10))
                  conv => lhs; whnf
                  try simp only [ls]
                  exact fq (y := some (AV.tup [AV.int .i64 ((-1)), AV.int .i64 ((-1))], []))
                · simp only [hc59, ls]
                  conv => lhs; whnf
                  exact cq (hcont9 (IntKind.i64.wrap (s1 + (IntKind.i64.wrap (1 - ((y20).1)))), (if s2 < (IntKind.i64.wrap (s1 + (IntKind.i64.wrap (1 - ((y20).1))))) then (IntKind.i64.wrap (s1 + (IntKind.i64.wrap (1 - ((y20).1))))) else s2), IntKind.i64.wrap (s3 + 1)) (fun _ => 0) hm)
              · simp only [hc58, ls]
                conv => lhs; whnf
                have hq := Option.some.inj hm; clear hm; subst hq
                refine (hK8 _ _).trans ?_
                refine Eq.trans ?_ (Eq.symm (show _ = some _ from hr10))
                conv => lhs; whnf
                try simp only [ls]
                exact fq (y := some (AV.tup [AV.int .i64 ((-1)), AV.int .i64 ((-1))], []))
          · simp only [hc55, ls]
            conv => lhs; whnf
            refine bif_or2 hm ?_ ?_ <;> clear hm <;> intro hc60 hm
            · simp only [hc60, ls]
              conv => lhs; whnf
              refine bif_or2 hm ?_ ?_ <;> clear hm <;> intro hc61 hm
              · simp only [hc61, ls]
                conv => lhs; whnf
                have hq := Option.some.inj hm; clear hm; subst hq
                refine (hK8 _ _).trans ?_
                refine Eq.trans ?_ (Eq.symm (show _ = some _ from hr10))
                conv => lhs; whnf
                try simp only [ls]
                exact fq (y := some (AV.tup [AV.int .i64 ((-1)), AV.int .i64 ((-1))], []))
              · simp only [hc61, ls]
                conv => lhs; whnf
                exact cq (hcont9 (IntKind.i64.wrap (s1 + (IntKind.i64.wrap (1 - ((y20).1)))), (if s2 < (IntKind.i64.wrap (s1 + (IntKind.i64.wrap (1 - ((y20).1))))) then (IntKind.i64.wrap (s1 + (IntKind.i64.wrap (1 - ((y20).1))))) else s2), IntKind.i64.wrap (s3 + 1)) (fun _ => 0) hm)
            · simp only [hc60, ls]
              conv => lhs; whnf
              have hq := Option.some.inj hm; clear hm; subst hq
              refine (hK8 _ _).trans ?_
              refine Eq.trans ?_ (Eq.symm (show _ = some _ from hr10))
              conv => lhs; whnf
              try simp only [ls]
              exact fq (y := some (AV.tup [AV.int .i64 ((-1)), AV.int .i64 ((-1))], []))
        | c5 y21 =>
          dsimp only at hm
          have hk15 : call false 37 [AV.int .i64 (x13.op)] [] = some (AV.tup [AV.agg [AV.int .i64 ((y21).1), AV.func 55 [] []], AV.bool ((y21).2)], []) := (hc _ _ _).trans (ok_code_of n x13.op (.c5 y21) hy14)
          try simp only [List.drop_zero, ls]
          first | simp only [hk15] | rewrite [hk15]
          try simp only [ls]
          conv => lhs; whnf
          refine bif_or2 hm ?_ ?_ <;> clear hm <;> intro hc62 hm
          · simp only [hc62, ls]
            conv => lhs; whnf
            refine bif_or2 hm ?_ ?_ <;> clear hm <;> intro hc63 hm
            · simp only [hc63, ls]
              conv => lhs; whnf
              refine bif_or2 hm ?_ ?_ <;> clear hm <;> intro hc64 hm
              · simp only [hc64, ls]
                conv => lhs; whnf
                have hq := Option.some.inj hm; clear hm; subst hq
                refine (hK8 _ _).trans ?_
                refine Eq.trans ?_ (Eq.symm (show _ = some _ from hr10))
                conv => lhs; whnf
                try simp only [ls]
                exact fq (y := some (AV.tup [AV.int .i64 ((-1)), AV.int .i64 ((-1))], []))
              · simp only [hc64, ls]
                conv => lhs; whnf
                exact cq (hcont9 (IntKind.i64.wrap (s1 + (IntKind.i64.wrap (1 - ((y21).1)))), (if s2 < (IntKind.i64.wrap (s1 + (IntKind.i64.wrap (1 - ((y21).1))))) then (IntKind.i64.wrap (s1 + (IntKind.i64.wrap (1 - ((y21).1))))) else s2), IntKind.i64.wrap (s3 + 1)) (fun _ => 0) hm)
            · simp only [hc63, ls]
              conv => lhs; whnf
              refine bif_or2 hm ?_ ?_ <;> clear hm <;> intro hc65 hm
              · simp only [hc65, ls]
                conv => lhs; whnf
                refine bif_or2 hm ?_ ?_ <;> clear hm <;> intro hc66 hm
                · simp only [hc66, ls]
                  conv => lhs; whnf
                  have hq := Option.some.inj hm; clear hm; subst hq
                  refine (hK8 _ _).trans ?_
                  refine Eq.trans ?_ (Eq.symm (show _ = some _ from hr10))
                  conv => lhs; whnf
                  try simp only [ls]
                  exact fq (y := some (AV.tup [AV.int .i64 ((-1)), AV.int .i64 ((-1))], []))
                · simp only [hc66, ls]
                  conv => lhs; whnf
                  exact cq (hcont9 (IntKind.i64.wrap (s1 + (IntKind.i64.wrap (1 - ((y21).1)))), (if s2 < (IntKind.i64.wrap (s1 + (IntKind.i64.wrap (1 - ((y21).1))))) then (IntKind.i64.wrap (s1 + (IntKind.i64.wrap (1 - ((y21).1))))) else s2), IntKind.i64.wrap (s3 + 1)) (fun _ => 0) hm)
              · simp only [hc65, ls]
                conv => lhs; whnf
                have hq := Option.some.inj hm; clear hm; subst hq
                refine (hK8 _ _).trans ?_
                refine Eq.trans ?_ (Eq.symm (show _ = some _ from hr10))
                conv => lhs; whnf
                try simp only [ls]
                exact fq (y := some (AV.tup [AV.int .i64 ((-1)), AV.int .i64 ((-1))], []))
          · simp only [hc62, ls]
            conv => lhs; whnf
            refine bif_or2 hm ?_ ?_ <;> clear hm <;> intro hc67 hm
            · simp only [hc67, ls]
              conv => lhs; whnf
              refine bif_or2 hm ?_ ?_ <;> clear hm <;> intro hc68 hm
              · simp only [hc68, ls]
                conv => lhs; whnf
                have hq := Option.some.inj hm; clear hm; subst hq
                refine (hK8 _ _).trans ?_
                refine Eq.trans ?_ (Eq.symm (show _ = some _ from hr10))
                conv => lhs; whnf
                try simp only [ls]
                exact fq (y := some (AV.tup [AV.int .i64 ((-1)), AV.int .i64 ((-1))], []))
              · simp only [hc68, ls]
                conv => lhs; whnf
                exact cq (hcont9 (IntKind.i64.wrap (s1 + (IntKind.i64.wrap (1 - ((y21).1)))), (if s2 < (IntKind.i64.wrap (s1 + (IntKind.i64.wrap (1 - ((y21).1))))) then (IntKind.i64.wrap (s1 + (IntKind.i64.wrap (1 - ((y21).1))))) else s2), IntKind.i64.wrap (s3 + 1)) (fun _ => 0) hm)
            · simp only [hc67, ls]
              conv => lhs; whnf
              have hq := Option.some.inj hm; clear hm; subst hq
              refine (hK8 _ _).trans ?_
              refine Eq.trans ?_ (Eq.symm (show _ = some _ from hr10))
              conv => lhs; whnf
              try simp only [ls]
              exact fq (y := some (AV.tup [AV.int .i64 ((-1)), AV.int .i64 ((-1))], []))
        | c6 y22 =>
          dsimp only at hm
          have hk15 : call false 37 [AV.int .i64 (x13.op)] [] = some (AV.tup [AV.agg [AV.int .i64 ((y22).1), AV.func 54 [] []], AV.bool ((y22).2)], []) := (hc _ _ _).trans (ok_code_of n x13.op (.c6 y22) hy14)
          try simp only [List.drop_zero, ls]
          first | simp only [hk15] | rewrite [hk15]
          try simp only [ls]
          conv => lhs; whnf
          refine bif_or2 hm ?_ ?_ <;> clear hm <;> intro hc69 hm
          · simp only [hc69, ls]
            conv => lhs; whnf
            refine bif_or2 hm ?_ ?_ <;> clear hm <;> intro hc70 hm
            · simp only [hc70, ls]
              conv => lhs; whnf
              refine bif_or2 hm ?_ ?_ <;> clear hm <;> intro hc71 hm
              · simp only [hc71, ls]
                conv => lhs; whnf
                have hq := Option.some.inj hm; clear hm; subst hq
                refine (hK8 _ _).trans ?_
                refine Eq.trans ?_ (Eq.symm (show _ = some _ from hr10))
                conv => lhs; whnf
                try simp only [ls]
                exact fq (y := some (AV.tup [AV.int .i64 ((-1)), AV.int .i64 ((-1))], []))
              · simp only [hc71, ls]
                conv => lhs; whnf
                exact cq (hcont9 (IntKind.i64.wrap (s1 + (IntKind.i64.wrap (1 - ((y22).1)))), (if s2 < (IntKind.i64.wrap (s1 + (IntKind.i64.wrap (1 - ((y22).1))))) then (IntKind.i64.wrap (s1 + (IntKind.i64.wrap (1 - ((y22).1))))) else s2), IntKind.i64.wrap (s3 + 1)) (fun _ => 0) hm)
            · simp only [hc70, ls]
              conv => lhs; whnf
              refine bif_or2 hm ?_ ?_ <;> clear hm <;> intro hc72 hm
              · simp only [hc72, ls]
                conv => lhs; whnf
                refine bif_or2 hm ?_ ?_ <;> clear hm <;> intro hc73 hm
                · simp only [hc73, ls]
                  conv => lhs; whnf
                  have hq := Option.some.inj hm; clear hm; subst hq
                  refine (hK8 _ _).trans ?_
                  refine Eq.trans ?_ (Eq.symm (show _ = some _ from hr10))
                  conv => lhs; whnf
                  try simp only [ls]
                  exact fq (y := some (AV.tup [AV.int .i64 ((-1)), AV.int .i64 ((-1))], []))
                · simp only [hc73, ls]
                  conv => lhs; whnf
                  exact cq (hcont9 (IntKind.i64.wrap (s1 + (IntKind.i64.wrap (1 - ((y22).1)))), (if s2 < (IntKind.i64.wrap (s1 + (IntKind.i64.wrap (1 - ((y22).1))))) then (IntKind.i64.wrap (s1 + (IntKind.i64.wrap (1 - ((y22).1))))) else s2), IntKind.i64.wrap (s3 + 1)) (fun _ => 0) hm)
              · simp only [hc72, ls]
                conv => lhs; whnf
                have hq := Option.some.inj hm; clear hm; subst hq
                refine (hK8 _ _).trans ?_
                refine Eq.trans ?_ (Eq.symm (show _ = some _ from hr10))
                conv => lhs; whnf
                try simp only [ls]
                exact fq (y := some (AV.tup [AV.int .i64 ((-1)), AV.int .i64 ((-1))], []))
          · simp only [hc69, ls]
            conv => lhs; whnf
            refine bif_or2 hm ?_ ?_ <;> clear hm <;> intro hc74 hm
            · simp only [hc74, ls]
              conv => lhs; whnf
              refine bif_or2 hm ?_ ?_ <;> clear hm <;> intro hc75 hm
              · simp only [hc75, ls]
                conv => lhs; whnf
                have hq := Option.some.inj hm; clear hm; subst hq
                refine (hK8 _ _).trans ?_
                refine Eq.trans ?_ (Eq.symm (show _ = some _ from hr10))
                conv => lhs; whnf
                try simp only [ls]
                exact fq (y := some (AV.tup [AV.int .i64 ((-1)), AV.int .i64 ((-1))], []))
              · simp only [hc75, ls]
                conv => lhs; whnf
                exact cq (hcont9 (IntKind.i64.wrap (s1 + (IntKind.i64.wrap (1 - ((y22).1)))), (if s2 < (IntKind.i64.wrap (s1 + (IntKind.i64.wrap (1 - ((y22).1))))) then (IntKind.i64.wrap (s1 + (IntKind.i64.wrap (1 - ((y22).1))))) else s2), IntKind.i64.wrap (s3 + 1)) (fun _ => 0) hm)
            · simp only [hc74, ls]
              conv => lhs; whnf
              have hq := Option.some.inj hm; clear hm; subst hq
              refine (hK8 _ _).trans ?_
              refine Eq.trans ?_ (Eq.symm (show _ = some _ from hr10))
              conv => lhs; whnf
              try simp only [ls]
              exact fq (y := some (AV.tup [AV.int .i64 ((-1)), AV.int .i64 ((-1))], []))
        | c7 y23 =>
          dsimp only at hm
          have hk15 : call false 37 [AV.int .i64 (x13.op)] [] = some (AV.tup [AV.agg [AV.int .i64 ((y23).1), AV.func 53 [] []], AV.bool ((y23).2)], []) := (hc _ _ _).trans (ok_code_of n x13.op (.c7 y23) hy14)
          try simp only [List.drop_zero, ls]
          first | simp only [hk15] | rewrite [hk15]
          try simp only [ls]
          conv => lhs; whnf
          refine bif_or2 hm ?_ ?_ <;> clear hm <;> intro hc76 hm
          · simp only [hc76, ls]
            conv => lhs; whnf
            refine bif_or2 hm ?_ ?_ <;> clear hm <;> intro hc77 hm
            · simp only [hc77, ls]
              conv => lhs; whnf
              refine bif_or2 hm ?_ ?_ <;> clear hm <;> intro hc78 hm
              · simp only [hc78, ls]
                conv => lhs; whnf
                have hq := Option.some.inj hm; clear hm; subst hq
                refine (hK8 _ _).trans ?_
                refine Eq.trans ?_ (Eq.symm (show _ = some _ from hr10))
                conv => lhs; whnf
                try simp only [ls]
                exact fq (y := some (AV.tup [AV.int .i64 ((-1)), AV.int .i64 ((-1))], []))
              · simp only [hc78, ls]
                conv => lhs; whnf
                exact cq (hcont9 (IntKind.i64.wrap (s1 + (IntKind.i64.wrap (1 - ((y23).1)))), (if s2 < (IntKind.i64.wrap (s1 + (IntKind.i64.wrap (1 - ((y23).1))))) then (IntKind.i64.wrap (s1 + (IntKind.i64.wrap (1 - ((y23).1))))) else s2), IntKind.i64.wrap (s3 + 1)) (fun _ => 0) hm)
            · simp only [hc77, ls]
              conv => lhs; whnf
              refine bif_or2 hm ?_ ?_ <;> clear hm <;> intro hc79 hm
              · simp only [hc79, ls]
                conv => lhs; whnf
                refine bif_or2 hm ?_ ?_ <;> clear hm <;> intro hc80 hm
                · simp only [hc80, ls]
                  conv => lhs; whnf
                  have hq := Option.some.inj hm; clear hm; subst hq
                  refine (hK8 _ _).trans ?_
                  refine Eq.trans ?_ (Eq.symm (show _ = some _ from hr10))
                  conv => lhs; whnf
                  try simp only [ls]
                  exact fq (y := some (AV.tup [AV.int .i64 ((-1)), AV.int .i64 ((-1))], []))
                · simp only [hc80, ls]
                  conv => lhs; whnf
                  exact cq (hcont9 (IntKind.i64.wrap (s1 + (IntKind.i64.wrap (1 - ((y23).1)))), (if s2 < (IntKind.i64.wrap (s1 + (IntKind.i64.wrap (1 - ((y23).1))))) then (IntKind.i64.wrap (s1 + (IntKind.i64.wrap (1 - ((y23).1))))) else s2), IntKind.i64.wrap (s3 + 1)) (fun _ => 0) hm)
              · simp only [hc79, ls]
                conv => lhs; whnf
                have hq := Option.some.inj hm; clear hm; subst hq
                refine (hK8 _ _).trans ?_
                refine Eq.trans ?_ (Eq.symm (show _ = some _ from hr10))
                conv => lhs; whnf
                try simp only [ls]
                exact fq (y := some (AV.tup [AV.int .i64 ((-1)), AV.int .i64 ((-1))], []))
          · simp only [hc76, ls]
            conv => lhs; whnf
            refine bif_or2 hm ?_ ?_ <;> clear hm <;> intro hc81 hm
            · simp only [hc81, ls]
              conv => lhs; whnf
              refine bif_or2 hm ?_ ?_ <;> clear hm <;> intro hc82 hm
              · simp only [hc82, ls]
                conv => lhs; whnf
                have hq := Option.some.inj hm; clear hm; subst hq
                refine (hK8 _ _).trans ?_
                refine Eq.trans ?_ (Eq.symm (show _ = some _ from hr10))
                conv => lhs; whnf
                try simp only [ls]
                exact fq (y := some (AV.tup [AV.int .i64 ((-1)), AV.int .i64 ((-1))], []))
              · simp only [hc82, ls]
                conv => lhs; whnf
                exact cq (hcont9 (IntKind.i64.wrap (s1 + (IntKind.i64.wrap (1 - ((y23).1)))), (if s2 < (IntKind.i64.wrap (s1 + (IntKind.i64.wrap (1 - ((y23).1))))) then (IntKind.i64.wrap (s1 + (IntKind.i64.wrap (1 - ((y23).1))))) else s2), IntKind.i64.wrap (s3 + 1)) (fun _ => 0) hm)
            · simp only [hc81, ls]
              conv => lhs; whnf
              have hq := Option.some.inj hm; clear hm; subst hq
              refine (hK8 _ _).trans ?_
              refine Eq.trans ?_ (Eq.symm (show _ = some _ from hr10))
              conv => lhs; whnf
              try simp only [ls]
              exact fq (y := some (AV.tup [AV.int .i64 ((-1)), AV.int .i64 ((-1))], []))
        | c8 y24 =>
          dsimp only at hm
          have hk15 : call false 37 [AV.int .i64 (x13.op)] [] = some (AV.tup [AV.agg [AV.int .i64 ((y24).1), AV.func 52 [] []], AV.bool ((y24).2)], []) := (hc _ _ _).trans (ok_code_of n x13.op (.c8 y24) hy14)
          try simp only [List.drop_zero, ls]
          first | simp only [hk15] | rewrite [hk15]
          try simp only [ls]
          conv => lhs; whnf
          refine bif_or2 hm ?_ ?_ <;> clear hm <;> intro hc83 hm
          · simp only [hc83, ls]
            conv => lhs; whnf
            refine bif_or2 hm ?_ ?_ <;> clear hm <;> intro hc84 hm
            · simp only [hc84, ls]
              conv => lhs; whnf
              refine bif_or2 hm ?_ ?_ <;> clear hm <;> intro hc85 hm
              · simp only [hc85, ls]
                conv => lhs; whnf
                have hq := Option.some.inj hm; clear hm; subst hq
                refine (hK8 _ _).trans ?_
                refine Eq.trans ?_ (Eq.symm (show _ = some _ from hr10))
                conv => lhs; whnf
                try simp only [ls]
                exact fq (y := some (AV.tup [AV.int .i64 ((-1)), AV.int .i64 ((-1))], []))
              · simp only [hc85, ls]
                conv => lhs; whnf
                exact cq (hcont9 (IntKind.i64.wrap (s1 + (IntKind.i64.wrap (1 - ((y24).1)))), (if s2 < (IntKind.i64.wrap (s1 + (IntKind.i64.wrap (1 - ((y24).1))))) then (IntKind.i64.wrap (s1 + (IntKind.i64.wrap (1 - ((y24).1))))) else s2), IntKind.i64.wrap (s3 + 1)) (fun _ => 0) hm)
            · simp only [hc84, ls]
              conv => lhs; whnf
              refine bif_or2 hm ?_ ?_ <;> clear hm <;> intro hc86 hm
              · simp only [hc86, ls]
                conv => lhs; whnf
                refine bif_or2 hm ?_ ?_ <;> clear hm <;> intro hc87 hm
                · simp only [hc87, ls]
                  conv => lhs; whnf
                  have hq := Option.some.inj hm; clear hm; subst hq
                  refine (hK8 _ _).trans ?_
                  refine Eq.trans ?_ (Eq.symm (show _ = some _ from hr10))
                  conv => lhs; whnf
                  try simp only [ls]
                  exact fq (y := some (AV.tup [AV.int .i64 ((-1)), AV.int .i64 ((-1))], []))
                · simp only [hc87, ls]
                  conv => lhs; whnf
                  exact cq (hcont9 (IntKind.i64.wrap (s1 + (IntKind.i64.wrap (1 - ((y24).1)))), (if s2 < (IntKind.i64.wrap (s1 + (IntKind.i64.wrap (1 - ((y24).1))))) then (IntKind.i64.wrap (s1 + (IntKind.i64.wrap (1 - ((y24).1))))) else s2), IntKind.i64.wrap (s3 + 1)) (fun _ => 0) hm)
              · simp only [hc86, ls]
                conv => lhs; whnf
                have hq := Option.some.inj hm; clear hm; subst hq
                refine (hK8 _ _).trans ?_
                refine Eq.trans ?_ (Eq.symm (show _ = some _ from hr10))
                conv => lhs; whnf
                try simp only [ls]
                exact fq (y := some (AV.tup [AV.int .i64 ((-1)), AV.int .i64 ((-1))], []))
          · simp only [hc83, ls]
            conv => lhs; whnf
            refine bif_or2 hm ?_ ?_ <;> clear hm <;> intro hc88 hm
            · simp only [hc88, ls]
              conv => lhs; whnf
              refine bif_or2 hm ?_ ?_ <;> clear hm <;> intro hc89 hm
              · simp only [hc89, ls]
                conv => lhs; whnf
                have hq := Option.some.inj hm; clear hm; subst hq
                refine (hK8 _ _).trans ?_
                refine Eq.trans ?_ (Eq.symm (show _ = some _ from hr10))
                conv => lhs; whnf
                try simp only [ls]
                exact fq (y := some (AV.tup [AV.int .i64 ((-1)), AV.int .i64 ((-1))], []))
              · simp only [hc89, ls]
                conv => lhs; whnf
                exact cq (hcont9 (IntKind.i64.wrap (s1 + (IntKind.i64.wrap (1 - ((y24).1)))), (if s2 < (IntKind.i64.wrap (s1 + (IntKind.i64.wrap (1 - ((y24).1))))) then (IntKind.i64.wrap (s1 + (IntKind.i64.wrap (1 - ((y24).1))))) else s2), IntKind.i64.wrap (s3 + 1)) (fun _ => 0) hm)
            · simp only [hc88, ls]
              conv => lhs; whnf
              have hq := Option.some.inj hm; clear hm; subst hq
              refine (hK8 _ _).trans ?_
              refine Eq.trans ?_ (Eq.symm (show _ = some _ from hr10))
              conv => lhs; whnf
              try simp only [ls]
              exact fq (y := some (AV.tup [AV.int .i64 ((-1)), AV.int .i64 ((-1))], []))
        | c9 y25 =>
          dsimp only at hm
          have hk15 : call false 37 [AV.int .i64 (x13.op)] [] = some (AV.tup [AV.agg [AV.int .i64 ((y25).1), AV.func 51 [] []], AV.bool ((y25).2)], []) := (hc _ _ _).trans (ok_code_of n x13.op (.c9 y25) hy14)
          try simp only [List.drop_zero, ls]
          first | simp only [hk15] | rewrite [hk15]
          try simp only [ls]
          conv => lhs; whnf
          refine bif_or2 hm ?_ ?_ <;> clear hm <;> intro hc90 hm
          · simp only [hc90, ls]
            conv => lhs; whnf
            refine bif_or2 hm ?_ ?_ <;> clear hm <;> intro hc91 hm
            · simp only [hc91, ls]
              conv => lhs; whnf
              refine bif_or2 hm ?_ ?_ <;> clear hm <;> intro hc92 hm
              · simp only [hc92, ls]
                conv => lhs; whnf
                have hq := Option.some.inj hm; clear hm; subst hq
                refine (hK8 _ _).trans ?_
                refine Eq.trans ?_ (Eq.symm (show _ = some _ from hr10))
                conv => lhs; whnf
                try simp only [ls]
                exact fq (y := some (AV.tup [AV.int .i64 ((-1)), AV.int .i64 ((-1))], []))
              · simp only [hc92, ls]
                conv => lhs; whnf
                exact cq (hcont9 (IntKind.i64.wrap (s1 + (IntKind.i64.wrap (1 - ((y25).1)))), (if s2 < (IntKind.i64.wrap (s1 + (IntKind.i64.wrap (1 - ((y25).1))))) then (IntKind.i64.wrap (s1 + (IntKind.i64.wrap (1 - ((y25).1))))) else s2), IntKind.i64.wrap (s3 + 1)) (fun _ => 0) hm)
            · simp only [hc91, ls]
              conv => lhs; whnf
              refine bif_or2 hm ?_ ?_ <;> clear hm <;> intro hc93 hm
              · simp only [hc93, ls]
                conv => lhs; whnf
                refine bif_or2 hm ?_ ?_ <;> clear hm <;> intro hc94 hm
                · simp only [hc94, ls]
                  conv => lhs; whnf
                  have hq := Option.some.inj hm; clear hm; subst hq
                  refine (hK8 _ _).trans ?_
                  refine Eq.trans ?_ (Eq.symm (show _ = some _ from hr10))
                  conv => lhs; whnf
                  try simp only [ls]
                  exact fq (y := some (AV.tup [AV.int .i64 ((-1)), AV.int .i64 ((-1))], []))
                · simp only [hc94, ls]
                  conv => lhs; whnf
                  exact cq (hcont9 (IntKind.i64.wrap (s1 + (IntKind.i64.wrap (1 - ((y25).1)))), (if s2 < (IntKind.i64.wrap (s1 + (IntKind.i64.wrap (1 - ((y25).1))))) then (IntKind.i64.wrap (s1 + (IntKind.i64.wrap (1 - ((y25).1))))) else s2), IntKind.i64.wrap (s3 + 1)) (fun _ => 0) hm)
              · simp only [hc93, ls]
                conv => lhs; whnf
                have hq := Option.some.inj hm; clear hm; subst hq
                refine (hK8 _ _).trans ?_
                refine Eq.trans ?_ (Eq.symm (show _ = some _ from hr10))
                conv => lhs; whnf
                try simp only [ls]
                exact fq (y := some (AV.tup [AV.int .i64 ((-1)), AV.int .i64 ((-1))], []))
          · simp only [hc90, ls]
            conv => lhs; whnf
            refine bif_or2 hm ?_ ?_ <;> clear hm <;> intro hc95 hm
            · simp only [hc95, ls]
              conv => lhs; whnf
              refine bif_or2 hm ?_ ?_ <;> clear hm <;> intro hc96 hm
              · simp only [hc96, ls]
                conv => lhs; whnf
                have hq := Option.some.inj hm; clear hm; subst hq
                refine (hK8 _ _).trans ?_
                refine Eq.trans ?_ (Eq.symm (show _ = some _ from hr10))
                conv => lhs; whnf
                try simp only [ls]
                exact fq (y := some (AV.tup [AV.int .i64 ((-1)), AV.int .i64 ((-1))], []))
              · simp only [hc96, ls]
                conv => lhs; whnf
                exact cq (hcont9 (IntKind.i64.wrap (s1 + (IntKind.i64.wrap (1 - ((y25).1)))), (if s2 < (IntKind.i64.wrap (s1 + (IntKind.i64.wrap (1 - ((y25).1))))) then (IntKind.i64.wrap (s1 + (IntKind.i64.wrap (1 - ((y25).1))))) else s2), IntKind.i64.wrap (s3 + 1)) (fun _ => 0) hm)
            · simp only [hc95, ls]
              conv => lhs; whnf
              have hq := Option.some.inj hm; clear hm; subst hq
              refine (hK8 _ _).trans ?_
              refine Eq.trans ?_ (Eq.symm (show _ = some _ from hr10))
              conv => lhs; whnf
              try simp only [ls]
              exact fq (y := some (AV.tup [AV.int .i64 ((-1)), AV.int .i64 ((-1))], []))
        | c10 y26 =>
          dsimp only at hm
          have hk15 : call false 37 [AV.int .i64 (x13.op)] [] = some (AV.tup [AV.agg [AV.int .i64 ((y26).1), AV.func 49 [] []], AV.bool ((y26).2)], []) := (hc _ _ _).trans (ok_code_of n x13.op (.c10 y26) hy14)
          try simp only [List.drop_zero, ls]
          first | simp only [hk15] | rewrite [hk15]
          try simp only [ls]
          conv => lhs; whnf
          refine bif_or2 hm ?_ ?_ <;> clear hm <;> intro hc97 hm
          · simp only [hc97, ls]
            conv => lhs; whnf
            refine bif_or2 hm ?_ ?_ <;> clear hm <;> intro hc98 hm
            · simp only [hc98, ls]
              conv => lhs; whnf
              refine bif_or2 hm ?_ ?_ <;> clear hm <;> intro hc99 hm
              · simp only [hc99, ls]
                conv => lhs; whnf
                have hq := Option.some.inj hm; clear hm; subst hq
                refine (hK8 _ _).trans ?_
                refine Eq.trans ?_ (Eq.symm (show _ = some _ from hr10))
                conv => lhs; whnf
                try simp only [ls]
                exact fq (y := some (AV.tup [AV.int .i64 ((-1)), AV.int .i64 ((-1))], []))
              · simp only [hc99, ls]
                conv => lhs; whnf
                exact cq (hcont9 (IntKind.i64.wrap (s1 + (IntKind.i64.wrap (1 - ((y26).1)))), (if s2 < (IntKind.i64.wrap (s1 + (IntKind.i64.wrap (1 - ((y26).1))))) then (IntKind.i64.wrap (s1 + (IntKind.i64.wrap (1 - ((y26).1))))) else s2), IntKind.i64.wrap (s3 + 1)) (fun _ => 0) hm)
            · simp only [hc98, ls]
              conv => lhs; whnf
              refine bif_or2 hm ?_ ?_ <;> clear hm <;> intro hc100 hm
              · simp only [hc100, ls]
                conv => lhs; whnf
                refine bif_or2 hm ?_ ?_ <;> clear hm <;> intro hc101 hm
                · simp only [hc101, ls]
                  conv => lhs; whnf
                  have hq := Option.some.inj hm; clear hm; subst hq
                  refine (hK8 _ _).trans ?_
                  refine Eq.trans ?_ (Eq.symm (show _ = some _ from hr10))
                  conv => lhs; whnf
                  try simp only [ls]
                  exact fq (y := some (AV.tup [AV.int .i64 ((-1)), AV.int .i64 ((-1))], []))
                · simp only [hc101, ls]
                  conv => lhs; whnf
                  exact cq (hcont9 (IntKind.i64.wrap (s1 + (IntKind.i64.wrap (1 - ((y26).1)))), (if s2 < (IntKind.i64.wrap (s1 + (IntKind.i64.wrap (1 - ((y26).1))))) then (IntKind.i64.wrap (s1 + (IntKind.i64.wrap (1 - ((y26).1))))) else s2), IntKind.i64.wrap (s3 + 1)) (fun _ => 0) hm)
              · simp only [hc100, ls]
                conv => lhs; whnf
                have hq := Option.some.inj hm; clear hm; subst hq
                refine (hK8 _ _).trans ?_
                refine Eq.trans ?_ (Eq.symm (show _ = some _ from hr10))
                conv => lhs; whnf
                try simp only [ls]
                exact fq (y := some (AV.tup [AV.int .i64 ((-1)), AV.int .i64 ((-1))], []))
          · simp only [hc97, ls]
            conv => lhs; whnf
            refine bif_or2 hm ?_ ?_ <;> clear hm <;> intro hc102 hm
            · simp only [hc102, ls]
              conv => lhs; whnf
              refine bif_or2 hm ?_ ?_ <;> clear hm <;> intro hc103 hm
              · simp only [hc103, ls]
                conv => lhs; whnf
                have hq := Option.some.inj hm; clear hm; subst hq
                refine (hK8 _ _).trans ?_
                refine Eq.trans ?_ (Eq.symm (show _ = some _ from hr10))
                conv => lhs; whnf
                try simp only [ls]
                exact fq (y := some (AV.tup [AV.int .i64 ((-1)), AV.int .i64 ((-1))], []))
              · simp only [hc103, ls]
                conv => lhs; whnf
                exact cq (hcont9 (IntKind.i64.wrap (s1 + (IntKind.i64.wrap (1 - ((y26).1)))), (if s2 < (IntKind.i64.wrap (s1 + (IntKind.i64.wrap (1 - ((y26).1))))) then (IntKind.i64.wrap (s1 + (IntKind.i64.wrap (1 - ((y26).1))))) else s2), IntKind.i64.wrap (s3 + 1)) (fun _ => 0) hm)
            · simp only [hc102, ls]
              conv => lhs; whnf
              have hq := Option.some.inj hm; clear hm; subst hq
              refine (hK8 _ _).trans ?_
              refine Eq.trans ?_ (Eq.symm (show _ = some _ from hr10))
              conv => lhs; whnf
              try simp only [ls]
              exact fq (y := some (AV.tup [AV.int .i64 ((-1)), AV.int .i64 ((-1))], []))
      · simp only [hc12, ls]
        conv => lhs; whnf
        have hq := Option.some.inj hm; clear hm; subst hq
        exact kq (hr10 (fun _ => 0))
    · cases o11 with
      | ret v =>
        have hq := Option.some.inj hm; clear hm; subst hq
        rfl
      | out t =>
        obtain ⟨x105, x106⟩ := t
        intro a104
        dsimp only at hm
        conv => lhs; whnf
        have hq := Option.some.inj hm; clear hm; subst hq
        try simp only [ls]
        exact fq (y := some (AV.tup [AV.int .i64 (x105), AV.int .i64 (x106)], []))

set_option maxHeartbeats 4000000 in
theorem ok_code_Depth (n : Nat) : ∀ (v0_l : (List OpS)) (r : Int), m_code_Depth n v0_l = some r → callN Try.prog HH XT n 19 [AV.sl 3 (List.map encOp (v0_l))] [] = some (AV.int .i64 (r), []) := by
  cases n with
  | zero => intro v0_l r hm; exact absurd hm (by intro h; cases h)
  | succ n =>
    intro v0_l r hm
    rw [m_code_Depth] at hm
    refine callN_eq' Try.func19 (by rfl) rfl rfl (Nat.le_of_ble_eq_true rfl) ?_
    intro call hc
    conv => lhs; whnf
    refine bind_some2 hm ?_; clear hm; intro y1 hy1 hm
    have hk2 : call false 41 [AV.sl 3 (List.map encOp (v0_l))] [] = some (AV.tup [AV.int .i64 ((y1).1), AV.int .i64 ((y1).2)], []) := (hc _ _ _).trans (ok_code_lies n v0_l y1 hy1)
    try simp only [List.drop_zero, ls]
    first | simp only [hk2] | rewrite [hk2]
    try simp only [ls]
    conv => lhs; whnf
    have hq := Option.some.inj hm; clear hm; subst hq
    try simp only [ls]
    exact fq (y := some (AV.int .i64 ((y1).2), []))
end Go.Proofs.Ytmnnkeejgkhgpaa
end

section
namespace Go.Proofs.Ytmnnkeejgkhgpaa
set_option linter.unusedVariables false
set_option linter.unusedSimpArgs false
set_option maxRecDepth 100000

set_option maxHeartbeats 4000000 in
theorem ok_code_Right (n : Nat) : ∀ (v0_l : (List OpS)) (v1_regs : (List Int)) (v2_own : Int) (v3_locs : Int) (r : Bool), m_code_Right n v0_l v1_regs v2_own v3_locs = some r → callN Try.prog HH XT n 21 [AV.sl 3 (List.map encOp (v0_l)), AV.sl 1 (List.map encI (v1_regs)), AV.int .i64 (v2_own), AV.int .i64 (v3_locs)] [] = some (AV.bool (r), []) := by
  cases n with
  | zero => intro v0_l v1_regs v2_own v3_locs r hm; exact absurd hm (by intro h; cases h)
  | succ n =>
    intro v0_l v1_regs v2_own v3_locs r hm
    rw [m_code_Right] at hm
    refine callN_eq' Try.func21 (by rfl) rfl rfl (Nat.le_of_ble_eq_true rfl) ?_
    intro call hc
    conv => lhs; whnf
    refine bind_some2 hm ?_; clear hm; intro o9 ho9 hm
    refine rounds_sim (σ := Int) (τ := Unit) (ν := Bool) 0 (fun s1 a3 => stOf 64 [(0, AV.sl 3 (List.map encOp (v0_l))), (1, AV.sl 1 (List.map encI (v1_regs))), (2, AV.int .i64 (v2_own)), (3, AV.int .i64 (v3_locs)), (14, AV.sl 3 (List.map encOp (v0_l))), (15, AV.int .i64 ((((v0_l).length : Nat) : Int))), (16, AV.int .i64 (s1))]) (fun s1 a3 => []) (fun _ a31 => stOf 64 [(0, AV.sl 3 (List.map encOp (v0_l)))]) (fun _ a31 => []) (fun v => (AV.bool (v), [])) (fun k s => code_Right_L0 n v0_l v1_regs v2_own v3_locs k s) (fun s => rfl) o9 ?_ n 0 (fun _ => 0) _ _ ho9 ?_ (by first | rfl | (simp only [ls, List.map_append, List.map_cons, List.map_nil, List.append_nil, List.length_set, length_copyL] <;> rfl)) (by first | rfl | (simp only [ls, List.map_append, List.map_cons, List.map_nil, List.append_nil, List.length_set, length_copyL] <;> rfl))
    · intro k2 ss a3 K4 cont5 hK6 hcont7 hm hr8
      obtain ⟨s1, rfl⟩ : ∃ x, x = ss := ⟨_, rfl⟩
      replace hm : code_Right_L0 n v0_l v1_regs v2_own v3_locs (k2 + 1) s1 = some o9 := hm
      rw [code_Right_L0] at hm
      conv => lhs; whnf
      refine bif_or2 hm ?_ ?_ <;> clear hm <;> intro hc10 hm
      · simp only [hc10, ls]
        conv => lhs; whnf
        refine bind_some2 hm ?_; clear hm; intro x11 hx11 hm
        refine bif_pos (by first | exact idx_in hx11 | exact idx_in' hx11) ?_
        simp only [idx_nth (f := encOp) hx11, ls]
        conv => lhs; whnf
        refine bif_or2 hm ?_ ?_ <;> clear hm <;> intro hc12 hm
        · simp only [hc12, ls]
          conv => lhs; whnf
          refine bif_or2 hm ?_ ?_ <;> clear hm <;> intro hc13 hm
          · simp only [hc13, ls]
            conv => lhs; whnf
            have hq := Option.some.inj hm; clear hm; subst hq
            refine (hK6 _ _).trans ?_
            refine Eq.trans ?_ (Eq.symm (show _ = some _ from hr8))
            conv => lhs; whnf
            try simp only [ls]
            exact fq (y := some (AV.bool (false), []))
          · simp only [hc13, ls]
            conv => lhs; whnf
            refine bif_or2 hm ?_ ?_ <;> clear hm <;> intro hc14 hm
            · simp only [hc14, ls]
              conv => lhs; whnf
              have hq := Option.some.inj hm; clear hm; subst hq
              refine (hK6 _ _).trans ?_
              refine Eq.trans ?_ (Eq.symm (show _ = some _ from hr8))
              conv => lhs; whnf
              try simp only [ls]
              exact fq (y := some (AV.bool (false), []))
            · simp only [hc14, ls]
              conv => lhs; whnf
              exact cq (hcont7 (IntKind.i64.wrap (s1 + 1)) (fun _ => 0) hm)
        · simp only [hc12, ls]
          conv => lhs; whnf
          refine bif_or2 hm ?_ ?_ <;> clear hm <;> intro hc15 hm
          · simp only [hc15, ls]
            conv => lhs; whnf
            refine bif_or2 hm ?_ ?_ <;> clear hm <;> intro hc16 hm
            · simp only [hc16, ls]
              conv => lhs; whnf
              have hq := Option.some.inj hm; clear hm; subst hq
              refine (hK6 _ _).trans ?_
              refine Eq.trans ?_ (Eq.symm (show _ = some _ from hr8))
              conv => lhs; whnf
              try simp only [ls]
              exact fq (y := some (AV.bool (false), []))
            · simp only [hc16, ls]
              conv => lhs; whnf
              refine bif_or2 hm ?_ ?_ <;> clear hm <;> intro hc17 hm
              · simp only [hc17, ls]
                conv => lhs; whnf
                have hq := Option.some.inj hm; clear hm; subst hq
                refine (hK6 _ _).trans ?_
                refine Eq.trans ?_ (Eq.symm (show _ = some _ from hr8))
                conv => lhs; whnf
                try simp only [ls]
                exact fq (y := some (AV.bool (false), []))
              · simp only [hc17, ls]
                conv => lhs; whnf
                exact cq (hcont7 (IntKind.i64.wrap (s1 + 1)) (fun _ => 0) hm)
          · simp only [hc15, ls]
            conv => lhs; whnf
            refine bif_or2 hm ?_ ?_ <;> clear hm <;> intro hc18 hm
            · simp only [hc18, ls]
              conv => lhs; whnf
              refine bif_or2 hm ?_ ?_ <;> clear hm <;> intro hc19 hm
              · simp only [hc19, ls]
                conv => lhs; whnf
                have hq := Option.some.inj hm; clear hm; subst hq
                refine (hK6 _ _).trans ?_
                refine Eq.trans ?_ (Eq.symm (show _ = some _ from hr8))
                conv => lhs; whnf
                try simp only [ls]
                exact fq (y := some (AV.bool (false), []))
              · simp only [hc19, ls]
                conv => lhs; whnf
                refine bif_or2 hm ?_ ?_ <;> clear hm <;> intro hc20 hm
                · simp only [hc20, ls]
                  conv => lhs; whnf
                  have hq := Option.some.inj hm; clear hm; subst hq
                  refine (hK6 _ _).trans ?_
                  refine Eq.trans ?_ (Eq.symm (show _ = some _ from hr8))
                  conv => lhs; whnf
                  try simp only [ls]
                  exact fq (y := some (AV.bool (false), []))
                · simp only [hc20, ls]
                  conv => lhs; whnf
                  exact cq (hcont7 (IntKind.i64.wrap (s1 + 1)) (fun _ => 0) hm)
            · simp only [hc18, ls]
              conv => lhs; whnf
              refine bif_or2 hm ?_ ?_ <;> clear hm <;> intro hc21 hm
              · simp only [hc21, ls]
                conv => lhs; whnf
                refine bif_or2 hm ?_ ?_ <;> clear hm <;> intro hc22 hm
                · simp only [hc22, ls]
                  conv => lhs; whnf
                  refine bif_or2 hm ?_ ?_ <;> clear hm <;> intro hc23 hm
                  · simp only [hc23, ls]
                    conv => lhs; whnf
                    refine bind_some2 hm ?_; clear hm; intro x24 hx24 hm
                    refine bif_pos (by first | exact idx_in hx24 | exact idx_in' hx24) ?_
                    simp only [idx_nth (f := encI) hx24, ls]
                    conv => lhs; whnf
                    refine bif_or2 hm ?_ ?_ <;> clear hm <;> intro hc25 hm
                    · simp only [hc25, ls]
                      conv => lhs; whnf
                      have hq := Option.some.inj hm; clear hm; subst hq
                      refine (hK6 _ _).trans ?_
                      refine Eq.trans ?_ (Eq.symm (show _ = some _ from hr8))
                      conv => lhs; whnf
                      try simp only [ls]
                      exact fq (y := some (AV.bool (false), []))
                    · simp only [hc25, ls]
                      conv => lhs; whnf
                      refine bif_or2 hm ?_ ?_ <;> clear hm <;> intro hc26 hm
                      · simp only [hc26, ls]
                        conv => lhs; whnf
                        have hq := Option.some.inj hm; clear hm; subst hq
                        refine (hK6 _ _).trans ?_
                        refine Eq.trans ?_ (Eq.symm (show _ = some _ from hr8))
                        conv => lhs; whnf
                        try simp only [ls]
                        exact fq (y := some (AV.bool (false), []))
                      · simp only [hc26, ls]
                        conv => lhs; whnf
                        exact cq (hcont7 (IntKind.i64.wrap (s1 + 1)) (fun _ => 0) hm)
                  · simp only [hc23, ls]
                    conv => lhs; whnf
                    refine bif_or2 hm ?_ ?_ <;> clear hm <;> intro hc27 hm
                    · simp only [hc27, ls]
                      conv => lhs; whnf
                      have hq := Option.some.inj hm; clear hm; subst hq
                      refine (hK6 _ _).trans ?_
                      refine Eq.trans ?_ (Eq.symm (show _ = some _ from hr8))
                      conv => lhs; whnf
                      try simp only [ls]
                      exact fq (y := some (AV.bool (false), []))
                    · simp only [hc27, ls]
                      conv => lhs; whnf
                      refine bif_or2 hm ?_ ?_ <;> clear hm <;> intro hc28 hm
                      · simp only [hc28, ls]
                        conv => lhs; whnf
                        have hq := Option.some.inj hm; clear hm; subst hq
                        refine (hK6 _ _).trans ?_
                        refine Eq.trans ?_ (Eq.symm (show _ = some _ from hr8))
                        conv => lhs; whnf
                        try simp only [ls]
                        exact fq (y := some (AV.bool (false), []))
                      · simp only [hc28, ls]
                        conv => lhs; whnf
                        exact cq (hcont7 (IntKind.i64.wrap (s1 + 1)) (fun _ => 0) hm)
                · simp only [hc22, ls]
                  conv => lhs; whnf
                  refine bif_or2 hm ?_ ?_ <;> clear hm <;> intro hc29 hm
                  · simp only [hc29, ls]
                    conv => lhs; whnf
                    have hq := Option.some.inj hm; clear hm; subst hq
                    refine (hK6 _ _).trans ?_
                    refine Eq.trans ?_ (Eq.symm (show _ = some _ from hr8))
                    conv => lhs; whnf
                    try simp only [ls]
                    exact fq (y := some (AV.bool (false), []))
                  · simp only [hc29, ls]
                    conv => lhs; whnf
                    refine bif_or2 hm ?_ ?_ <;> clear hm <;> intro hc30 hm
                    · simp only [hc30, ls]
                      conv => lhs; whnf
                      have hq := Option.some.inj hm; clear hm; subst hq
                      refine (hK6 _ _).trans ?_
                      refine Eq.trans ?_ (Eq.symm (show _ = some _ from hr8))
                      conv => lhs; whnf
                      try simp only [ls]
                      exact fq (y := some (AV.bool (false), []))
                    · simp only [hc30, ls]
                      conv => lhs; whnf
                      exact cq (hcont7 (IntKind.i64.wrap (s1 + 1)) (fun _ => 0) hm)
              · simp only [hc21, ls]
                conv => lhs; whnf
                exact cq (hcont7 (IntKind.i64.wrap (s1 + 1)) (fun _ => 0) hm)
      · simp only [hc10, ls]
        conv => lhs; whnf
        have hq := Option.some.inj hm; clear hm; subst hq
        exact kq (hr8 (fun _ => 0))
    · cases o9 with
      | ret v =>
        have hq := Option.some.inj hm; clear hm; subst hq
        rfl
      | out t =>
        intro a31
        dsimp only at hm
        conv => lhs; whnf
        refine bind_some2 hm ?_; clear hm; intro y32 hy32 hm
        have hk33 : call false 41 [AV.sl 3 (List.map encOp (v0_l))] [] = some (AV.tup [AV.int .i64 ((y32).1), AV.int .i64 ((y32).2)], []) := (hc _ _ _).trans (ok_code_lies n v0_l y32 hy32)
        try simp only [List.drop_zero, ls]
        first | simp only [hk33] | rewrite [hk33]
        try simp only [ls]
        conv => lhs; whnf
        have hq := Option.some.inj hm; clear hm; subst hq
        try simp only [ls]
        exact fq (y := some (AV.bool ((((y32).1) == 1)), []))

end Go.Proofs.Ytmnnkeejgkhgpaa
end

section
namespace Go.Proofs.Ytmnnkeejgkhgpaa
set_option linter.unusedVariables false
set_option linter.unusedSimpArgs false
set_option maxRecDepth 100000

set_option maxHeartbeats 4000000 in
theorem ok_law06_CodeRows (n : Nat) : ∀ (v0_l : (List OpS)) (v1_own : Int) (v2_locs : Int) (r : Bool), m_law06_CodeRows n v0_l v1_own v2_locs = some r → callN Try.prog HH XT n 7 [AV.sl 3 (List.map encOp (v0_l)), AV.int .u8 (v1_own), AV.int .u8 (v2_locs)] [] = some (AV.bool (r), []) := by
  cases n with
  | zero => intro v0_l v1_own v2_locs r hm; exact absurd hm (by intro h; cases h)
  | succ n =>
    intro v0_l v1_own v2_locs r hm
    rw [m_law06_CodeRows] at hm
    refine callN_eq' Try.func7 (by rfl) rfl rfl (Nat.le_of_ble_eq_true rfl) ?_
    intro call hc
    conv => lhs; whnf
    refine bif_or2 hm ?_ ?_ <;> clear hm <;> intro hc1 hm
    · simp only [hc1, ls]
      conv => lhs; whnf
      refine bind_some2 hm ?_; clear hm; intro y2 hy2 hm
      have hk3 : call false 10 [] [] = some (AV.bool (y2), []) := (hc _ _ _).trans (ok_law06_known n  y2 hy2)
      try simp only [List.drop_zero, ls]
      first | simp only [hk3] | rewrite [hk3]
      try simp only [ls]
      conv => lhs; whnf
      have hq := Option.some.inj hm; clear hm; subst hq
      try simp only [ls]
      exact fq (y := some (AV.bool (y2), []))
    · simp only [hc1, ls]
      conv => lhs; whnf
      refine bind_some2 hm ?_; clear hm; intro y4 hy4 hm
      have hk5 : call false 21 [AV.sl 3 (List.map encOp (v0_l)), AV.sl 1 [], AV.int .i64 (IntKind.i64.wrap (v1_own)), AV.int .i64 (IntKind.i64.wrap (v2_locs))] [] = some (AV.bool (y4), []) := (hc _ _ _).trans (ok_code_Right n v0_l ([] : List Int) (IntKind.i64.wrap (v1_own)) (IntKind.i64.wrap (v2_locs)) y4 hy4)
      try simp only [List.length_nil, List.map_nil] at hk5
      try simp only [List.length_nil, List.map_nil]
      try simp only [List.drop_zero, ls]
      first | simp only [hk5] | rewrite [hk5]
      try simp only [ls]
      conv => lhs; whnf
      refine bif_or2 hm ?_ ?_ <;> clear hm <;> intro hc6 hm
      · simp only [hc6, ls]
        conv => lhs; whnf
        refine chk_some2 hm ?_; clear hm; intro hc9 hm
        refine bif_pos (app_row hc9 (by first | rfl | simp only [List.length_map]) (by first | rfl | simp only [List.length_map]) (by first | rfl | simp only [List.length_map, take_map_len]) (by kernel_rfl)) ?_
        try simp only [lt]
        have hp7 : ([] : List (List AV)) ++ List.map encOp (v0_l) = List.map encOp (([] : List OpS) ++ v0_l) := by first | rfl | (rw [List.map_append]; rfl) | (rw [List.map_append]; done) | (simp only [List.map_append, List.map_cons, List.map_nil, List.nil_append, encOp] <;> rfl)
        have hl8 : List.length ([] : List (List AV)) + List.length (List.map encOp (v0_l) : List (List AV)) = List.length (([] : List OpS) ++ v0_l) := by simp only [List.length_map, List.length_append] <;> rfl
        have hl8_b : List.length ([] : List OpS) + List.length (List.map encOp (v0_l) : List (List AV)) = List.length (([] : List OpS) ++ v0_l) := by simp only [List.length_map, List.length_append] <;> rfl
        have hl8_c : List.length ([] : List OpS) + List.length v0_l = List.length (([] : List OpS) ++ v0_l) := by simp only [List.length_map, List.length_append] <;> rfl
        first | simp only [hp7, hl8] | (simp only [List.length_map, take_map_len]; simp only [hp7, hl8_b, hl8_c])
        try simp only [ls]
        conv => lhs; whnf
        refine chk_some2 hm ?_; clear hm; intro hc12 hm
        refine bif_pos (app_row hc12 (by first | rfl | simp only [List.length_map]) (by first | rfl | simp only [List.length_map]) (by first | rfl | simp only [List.length_map, take_map_len]) (by kernel_rfl)) ?_
        try simp only [lt]
        have hp10 : (List.map encOp (([] : List OpS) ++ v0_l) : List (List AV)) ++ [[AV.int .i64 (1), AV.int .i64 (0), AV.int .i64 (0)]] = List.map encOp ((([] : List OpS) ++ v0_l) ++ ([(⟨1, 0, 0⟩ : OpS)] : List OpS)) := by first | rfl | (rw [List.map_append]; rfl) | (rw [List.map_append]; done) | (simp only [List.map_append, List.map_cons, List.map_nil, List.nil_append, encOp] <;> rfl)
        have hl11 : List.length (List.map encOp (([] : List OpS) ++ v0_l) : List (List AV)) + List.length ([[AV.int .i64 (1), AV.int .i64 (0), AV.int .i64 (0)]] : List (List AV)) = List.length ((([] : List OpS) ++ v0_l) ++ ([(⟨1, 0, 0⟩ : OpS)] : List OpS)) := by simp only [List.length_map, List.length_append] <;> rfl
        have hl11_b : List.length (([] : List OpS) ++ v0_l) + List.length ([[AV.int .i64 (1), AV.int .i64 (0), AV.int .i64 (0)]] : List (List AV)) = List.length ((([] : List OpS) ++ v0_l) ++ ([(⟨1, 0, 0⟩ : OpS)] : List OpS)) := by simp only [List.length_map, List.length_append] <;> rfl
        have hl11_c : List.length (([] : List OpS) ++ v0_l) + List.length ([(⟨1, 0, 0⟩ : OpS)] : List OpS) = List.length ((([] : List OpS) ++ v0_l) ++ ([(⟨1, 0, 0⟩ : OpS)] : List OpS)) := by simp only [List.length_map, List.length_append] <;> rfl
        first | simp only [hp10, hl11] | (simp only [List.length_map, take_map_len]; simp only [hp10, hl11_b, hl11_c])
        try simp only [ls]
        conv => lhs; whnf
        refine bind_some2 hm ?_; clear hm; intro y13 hy13 hm
        have hk14 : call false 21 [AV.sl 3 (List.map encOp (v0_l)), AV.sl 1 [[AV.int .i64 (3)]], AV.int .i64 (IntKind.i64.wrap ((IntKind.i64.wrap (v1_own)) + 1)), AV.int .i64 (IntKind.i64.wrap ((IntKind.i64.wrap (v2_locs)) + 2))] [] = some (AV.bool (y13), []) := (hc _ _ _).trans (ok_code_Right n v0_l ([3] : List Int) (IntKind.i64.wrap ((IntKind.i64.wrap (v1_own)) + 1)) (IntKind.i64.wrap ((IntKind.i64.wrap (v2_locs)) + 2)) y13 hy13)
        try simp only [List.drop_zero, ls]
        first | simp only [hk14] | rewrite [hk14]
        try simp only [ls]
        conv => lhs; whnf
        refine bif_or2 hm ?_ ?_ <;> clear hm <;> intro hc15 hm
        · simp only [hc15, ls]
          conv => lhs; whnf
          refine bind_some2 hm ?_; clear hm; intro y16 hy16 hm
          have hk17 : call false 21 [AV.sl 3 (List.map encOp (((([] : List OpS) ++ v0_l) ++ ([(⟨1, 0, 0⟩ : OpS)] : List OpS)))), AV.sl 1 [], AV.int .i64 (IntKind.i64.wrap (v1_own)), AV.int .i64 (IntKind.i64.wrap (v2_locs))] [] = some (AV.bool (y16), []) := (hc _ _ _).trans (ok_code_Right n ((([] : List OpS) ++ v0_l) ++ ([(⟨1, 0, 0⟩ : OpS)] : List OpS)) ([] : List Int) (IntKind.i64.wrap (v1_own)) (IntKind.i64.wrap (v2_locs)) y16 hy16)
          try simp only [List.length_nil, List.map_nil] at hk17
          try simp only [List.length_nil, List.map_nil]
          try simp only [List.drop_zero, ls]
          first | simp only [hk17] | rewrite [hk17]
          try simp only [ls]
          conv => lhs; whnf
          refine bif_or2 hm ?_ ?_ <;> clear hm <;> intro hc18 hm
          · simp only [hc18, ls]
            conv => lhs; whnf
            have hq := Option.some.inj hm; clear hm; subst hq
            try simp only [ls]
            exact fq (y := some (AV.bool (false), []))
          · simp only [hc18, ls]
            conv => lhs; whnf
            refine bind_some2 hm ?_; clear hm; intro y19 hy19 hm
            have hk20 : call false 19 [AV.sl 3 (List.map encOp (((([] : List OpS) ++ v0_l) ++ ([(⟨1, 0, 0⟩ : OpS)] : List OpS))))] [] = some (AV.int .i64 (y19), []) := (hc _ _ _).trans (ok_code_Depth n ((([] : List OpS) ++ v0_l) ++ ([(⟨1, 0, 0⟩ : OpS)] : List OpS)) y19 hy19)
            try simp only [List.length_nil, List.map_nil] at hk20
            try simp only [List.length_nil, List.map_nil]
            try simp only [List.drop_zero, ls]
            first | simp only [hk20] | rewrite [hk20]
            try simp only [ls]
            conv => lhs; whnf
            refine bind_some2 hm ?_; clear hm; intro y21 hy21 hm
            have hk22 : call false 19 [AV.sl 3 (List.map encOp (v0_l))] [] = some (AV.int .i64 (y21), []) := (hc _ _ _).trans (ok_code_Depth n v0_l y21 hy21)
            try simp only [List.drop_zero, ls]
            first | simp only [hk22] | rewrite [hk22]
            try simp only [ls]
            conv => lhs; whnf
            refine bif_or2 hm ?_ ?_ <;> clear hm <;> intro hc23 hm
            · simp only [hc23, ls]
              conv => lhs; whnf
              refine bif_or2 hm ?_ ?_ <;> clear hm <;> intro hc24 hm
              · simp only [hc24, ls]
                conv => lhs; whnf
                refine bind_some2 hm ?_; clear hm; intro y25 hy25 hm
                have hk26 : call false 10 [] [] = some (AV.bool (y25), []) := (hc _ _ _).trans (ok_law06_known n  y25 hy25)
                try simp only [List.drop_zero, ls]
                first | simp only [hk26] | rewrite [hk26]
                try simp only [ls]
                conv => lhs; whnf
                have hq := Option.some.inj hm; clear hm; subst hq
                try simp only [ls]
                exact fq (y := some (AV.bool (y25), []))
              · simp only [hc24, ls]
                conv => lhs; whnf
                have hq := Option.some.inj hm; clear hm; subst hq
                try simp only [ls]
                exact fq (y := some (AV.bool (false), []))
            · simp only [hc23, ls]
              conv => lhs; whnf
              have hq := Option.some.inj hm; clear hm; subst hq
              try simp only [ls]
              exact fq (y := some (AV.bool (false), []))
        · simp only [hc15, ls]
          conv => lhs; whnf
          have hq := Option.some.inj hm; clear hm; subst hq
          try simp only [ls]
          exact fq (y := some (AV.bool (false), []))
      · simp only [hc6, ls]
        conv => lhs; whnf
        refine bind_some2 hm ?_; clear hm; intro y27 hy27 hm
        have hk28 : call false 10 [] [] = some (AV.bool (y27), []) := (hc _ _ _).trans (ok_law06_known n  y27 hy27)
        try simp only [List.drop_zero, ls]
        first | simp only [hk28] | rewrite [hk28]
        try simp only [ls]
        conv => lhs; whnf
        have hq := Option.some.inj hm; clear hm; subst hq
        try simp only [ls]
        exact fq (y := some (AV.bool (y27), []))
end Go.Proofs.Ytmnnkeejgkhgpaa
end

