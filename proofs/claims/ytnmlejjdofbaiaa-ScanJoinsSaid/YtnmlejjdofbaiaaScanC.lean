/- Parts of the proofs of the laws of layer 1, scan (text ScanC). Conditions: none. -/
import Derived.Test.YtnmlejjdofbaiaaScanB
namespace Go.Proofs.Ytnmlejjdofbaiaa
open Go.RowKit

theorem list_no {s : ByteArray} {l : List UInt8} (h : s.data.toList ≠ l) : (s.toList == l) = false := by
  rw [ByteArray.toList_eq]; simpa using h

theorem bytes_of {s : ByteArray} {l : List UInt8} (h : s.data.toList = l) : s = ⟨l.toArray⟩ := by
  subst h; rfl

set_option maxHeartbeats 1000000 in
theorem keyword_any (s : ByteArray) (w : World) :
    Calls Try.prog 12 #[.string s] w fun e w' => e = .returned (.bool (kwB s.data.toList)) ∧ w = w' := by
  by_cases h : s.data.toList ∈ kws
  · have hk : kwB s.data.toList = true := by simpa [kwB] using h
    rw [hk]
    simp only [kws, List.mem_cons, List.not_mem_nil, or_false] at h
    rcases h with h | h | h | h | h | h | h | h | h | h | h | h | h | h | h | h | h | h | h | h | h
    all_goals
      obtain rfl := bytes_of h
      clear h hk
      go_enter Try.func12, Try.ntmps12
      go_wp2
      go_ret
      exact ⟨rfl, rfl⟩
  · have hk : kwB s.data.toList = false := by simpa [kwB] using h
    rw [hk]
    have n0 : (s.toList == [109, 111, 100]) = false := list_no (fun e => h (by rw [e]; decide))
    have n1 : (s.toList == [108, 111, 99]) = false := list_no (fun e => h (by rw [e]; decide))
    have n2 : (s.toList == [116, 104, 114, 101, 97, 100]) = false := list_no (fun e => h (by rw [e]; decide))
    have n3 : (s.toList == [114, 101, 103]) = false := list_no (fun e => h (by rw [e]; decide))
    have n4 : (s.toList == [115, 107, 105, 112]) = false := list_no (fun e => h (by rw [e]; decide))
    have n5 : (s.toList == [115, 101, 116]) = false := list_no (fun e => h (by rw [e]; decide))
    have n6 : (s.toList == [108, 111, 97, 100]) = false := list_no (fun e => h (by rw [e]; decide))
    have n7 : (s.toList == [115, 116, 111, 114, 101]) = false := list_no (fun e => h (by rw [e]; decide))
    have n8 : (s.toList == [99, 97, 115]) = false := list_no (fun e => h (by rw [e]; decide))
    have n9 : (s.toList == [102, 97, 100, 100]) = false := list_no (fun e => h (by rw [e]; decide))
    have n10 : (s.toList == [120, 99, 104, 103]) = false := list_no (fun e => h (by rw [e]; decide))
    have n11 : (s.toList == [102, 101, 110, 99, 101]) = false := list_no (fun e => h (by rw [e]; decide))
    have n12 : (s.toList == [97, 119, 97, 105, 116]) = false := list_no (fun e => h (by rw [e]; decide))
    have n13 : (s.toList == [105, 102]) = false := list_no (fun e => h (by rw [e]; decide))
    have n14 : (s.toList == [101, 108, 115, 101]) = false := list_no (fun e => h (by rw [e]; decide))
    have n15 : (s.toList == [119, 104, 105, 108, 101]) = false := list_no (fun e => h (by rw [e]; decide))
    have n16 : (s.toList == [108, 111, 111, 112]) = false := list_no (fun e => h (by rw [e]; decide))
    have n17 : (s.toList == [98, 114, 101, 97, 107]) = false := list_no (fun e => h (by rw [e]; decide))
    have n18 : (s.toList == [102, 111, 114, 97, 108, 108]) = false := list_no (fun e => h (by rw [e]; decide))
    have n19 : (s.toList == [101, 120, 105, 115, 116, 115]) = false := list_no (fun e => h (by rw [e]; decide))
    have n20 : (s.toList == [97, 108, 119, 97, 121, 115]) = false := list_no (fun e => h (by rw [e]; decide))
    clear h hk
    go_enter Try.func12, Try.ntmps12
    go_wp2
    go_ret
    exact ⟨rfl, rfl⟩

end Go.Proofs.Ytnmlejjdofbaiaa
