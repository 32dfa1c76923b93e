/- Parts of the proofs of the laws of layer 1, scan (text PlainLex2). Conditions: none. -/
import Derived.Test.YtnmlejjdofbaiaaPlainOne
/- Plain: what is skipped, once more. -/
namespace Go.Proofs.Ytnmlejjdofbaiaa

theorem gapS_true (l : List UInt8) : gapS true l = runLen lineB l + gapS false (l.drop (runLen lineB l)) := by
  induction l with
  | nil => simp [gapS, runLen]
  | cons c t ih =>
    rw [runLen_cons]
    by_cases h : c.toNat = 10
    · have h1 : lineB c.toNat = false := by simp [lineB, h]
      rw [if_neg (by rw [h1]; simp), List.drop_zero, gapS, gapS, if_pos h, if_pos (by simp [blankB, h])]
      omega
    · have h1 : lineB c.toNat = true := by simp only [lineB, decide_eq_true_eq]; omega
      rw [if_pos h1, gapS, if_neg h, ih, List.drop_succ_cons]
      omega

theorem gapS_remark {c : UInt8} {t : List UInt8} (h : c.toNat = 35) : gapS false (c :: t) = runLen lineB (c :: t) + gapS false ((c :: t).drop (runLen lineB (c :: t))) := by
  rw [← gapS_true]
  have hb : blankB c.toNat = false := by simp [blankB, h]
  rw [gapS, gapS, if_neg (by rw [hb]; simp), if_pos h, if_neg (by omega)]

theorem gapS_blank {c : UInt8} {t : List UInt8} (h : blankB c.toNat = true) : gapS false (c :: t) = 1 + gapS false t := by rw [gapS, if_pos h]
theorem gapS_none {c : UInt8} {t : List UInt8} (h : blankB c.toNat = false) (h2 : c.toNat ≠ 35) : gapS false (c :: t) = 0 := by rw [gapS, if_neg (by rw [h]; simp), if_neg h2]

end Go.Proofs.Ytnmlejjdofbaiaa
