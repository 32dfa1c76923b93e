/- Parts of the proofs: what they lean on. Conditions: none. -/
import Derived.WalkKit
import Derived.Lib.Hide
import Derived.Handy
import Derived.PlainAid
import Derived.Test.YtpnhafdimkmbbaaLegS9
section
namespace Go.Proofs.Ytpnhafdimkmbbaa

def letterB (c : Int) : Bool := decide ((97 ≤ c ∧ c ≤ 122) ∨ (65 ≤ c ∧ c ≤ 90) ∨ c = 95)
def digitB (c : Int) : Bool := decide (48 ≤ c ∧ c ≤ 57)
theorem len_toList (s : ByteArray) : s.data.toList.length = s.size := Array.length_toList

theorem letterB_high {c : Int} (h : 128 ≤ c) : letterB c = false := by simp [letterB]; omega
theorem digitB_high {c : Int} (h : 128 ≤ c) : digitB c = false := by simp [digitB]; omega
def kws : List (List UInt8) := [[109, 111, 100], [108, 111, 99], [116, 104, 114, 101, 97, 100], [114, 101, 103], [115, 107, 105, 112], [115, 101, 116], [108, 111, 97, 100], [115, 116, 111, 114, 101], [99, 97, 115], [102, 97, 100, 100], [120, 99, 104, 103], [102, 101, 110, 99, 101], [97, 119, 97, 105, 116], [105, 102], [101, 108, 115, 101], [119, 104, 105, 108, 101], [108, 111, 111, 112], [98, 114, 101, 97, 107], [102, 111, 114, 97, 108, 108], [101, 120, 105, 115, 116, 115], [97, 108, 119, 97, 121, 115]]
def kwB (l : List UInt8) : Bool := kws.contains l

end Go.Proofs.Ytpnhafdimkmbbaa
end

section
namespace Go.Proofs.Ytpnhafdimkmbbaa

/-- What may stand at a place of a name. -/
def nameAt (l : List UInt8) (k : Nat) : Bool := match l[k]? with | some c => letterB c.toNat || (decide (0 < k) && digitB c.toNat) | none => true
def nameB (l : List UInt8) : Bool := !l.isEmpty && decide (l.length ≤ 16) && (List.range l.length).all (nameAt l) && !kwB l

theorem nameB_bad {l : List UInt8} {k : Nat} (hk : k < l.length) (h : nameAt l k = false) : nameB l = false := by
  have : (List.range l.length).all (nameAt l) = false := by
    rw [Bool.eq_false_iff]
    intro e
    rw [List.all_eq_true] at e
    have := e k (by simpa using hk)
    rw [h] at this
    simp at this
  simp [nameB, this]

theorem nameB_good {l : List UInt8} (h : ∀ k, k < l.length → nameAt l k = true) : nameB l = (!l.isEmpty && decide (l.length ≤ 16) && !kwB l) := by
  have : (List.range l.length).all (nameAt l) = true := by
    rw [List.all_eq_true]
    intro k hk
    exact h k (by simpa using hk)
  simp [nameB, this]

theorem nameAt_of (s : ByteArray) (k : Nat) (hk : k < s.size) : nameAt s.data.toList k = (letterB s[k].toNat || (decide (0 < k) && digitB s[k].toNat)) := by
  have : s.data.toList[k]? = some s[k] := by rw [List.getElem?_eq_getElem (by rw [len_toList]; exact hk)]; rfl
  simp only [nameAt, this]

end Go.Proofs.Ytpnhafdimkmbbaa
end

