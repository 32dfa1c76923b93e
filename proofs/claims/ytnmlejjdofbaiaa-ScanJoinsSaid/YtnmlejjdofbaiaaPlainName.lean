/- Parts of the proofs of the laws of layer 1, scan (text PlainName). Conditions: none. -/
import Derived.Test.YtnmlejjdofbaiaaPlainScan
/- Plain: a name. -/
namespace Go.Proofs.Ytnmlejjdofbaiaa

/-- What may stand at a place of a name. -/
def nameAt (l : List UInt8) (k : Nat) : Bool := match l[k]? with | some c => letterB c.toNat || (decide (0 < k) && digitB c.toNat) | none => true
def nameB (l : List UInt8) : Bool := !l.isEmpty && decide (l.length ≤ 16) && (List.range l.length).all (nameAt l) && !kwB l

theorem nameB_bad {l : List UInt8} {k : Nat} (hk : k < l.length) (h : nameAt l k = false) : nameB l = false := by
  have : (List.range l.length).all (nameAt l) = false := by
    rw [Bool.eq_false_iff]
    intro e
    rw [List.all_eq_true] at e
    have := e k (by simpa using hk)
    rw [h] at this
    simp at this
  simp [nameB, this]

theorem nameB_good {l : List UInt8} (h : ∀ k, k < l.length → nameAt l k = true) : nameB l = (!l.isEmpty && decide (l.length ≤ 16) && !kwB l) := by
  have : (List.range l.length).all (nameAt l) = true := by
    rw [List.all_eq_true]
    intro k hk
    exact h k (by simpa using hk)
  simp [nameB, this]

theorem nameAt_of (s : ByteArray) (k : Nat) (hk : k < s.size) : nameAt s.data.toList k = (letterB s[k].toNat || (decide (0 < k) && digitB s[k].toNat)) := by
  have : s.data.toList[k]? = some s[k] := by rw [List.getElem?_eq_getElem (by rw [len_toList]; exact hk)]; rfl
  simp only [nameAt, this]

end Go.Proofs.Ytnmlejjdofbaiaa
