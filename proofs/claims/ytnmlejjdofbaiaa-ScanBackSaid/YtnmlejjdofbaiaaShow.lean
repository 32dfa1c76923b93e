/- Parts of the proofs of the laws of layer 1, scan (text Show). Conditions: none. -/
import Derived.Test.YtnmlejjdofbaiaaTok
/- Plain: tokens as text. -/
namespace Go.Proofs.Ytnmlejjdofbaiaa

def showB (l : List Tok) : Nat → List UInt8
  | 0 => []
  | k + 1 => match l[k]? with
    | some t => (if 0 < k then showB l k ++ [32] else showB l k) ++ t.text
    | none => showB l k

theorem showB_succ (l : List Tok) (k : Nat) (hk : k < l.length) : showB l (k + 1) = (if 0 < k then showB l k ++ [32] else showB l k) ++ l[k].text := by
  simp only [showB, List.getElem?_eq_getElem hk]

theorem showB_size (l : List Tok) (m : Nat) (h : ∀ t ∈ l, t.text.length ≤ m) (k : Nat) : (showB l k).length ≤ k * (m + 1) := by
  induction k with
  | zero => exact Nat.zero_le _
  | succ k ih =>
    simp only [showB]
    split
    · rename_i t ht
      have := h t (List.mem_of_getElem? ht)
      rw [Nat.succ_mul]
      split
      · simp only [List.length_append, List.length_singleton]; omega
      · simp only [List.length_append]; omega
    · rw [Nat.succ_mul]; omega

theorem bs_append (a b : List UInt8) : bs a ++ bs b = bs (a ++ b) := by
  apply ByteArray.ext
  simp [bs, ByteArray.data_append]

end Go.Proofs.Ytnmlejjdofbaiaa
