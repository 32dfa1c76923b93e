/- Parts of the proofs of the laws of layer 1, scan (text ScanD). Conditions: none. -/
import Derived.Test.YtnmlejjdofbaiaaScanC
import Derived.Lib.Strings
namespace Go.Proofs.Ytnmlejjdofbaiaa
open Go.RowKit

theorem byte_no (c : UInt8) (n : Nat) (hn : n < 256) (h : c ≠ UInt8.ofNat n) : ((c.toNat : Int) == (n : Int)) = false := by
  rw [beq_eq_false_iff_ne]
  intro e
  apply h
  have e' : c.toNat = n := by omega
  apply UInt8.toNat_inj.1
  simp [e', Nat.mod_eq_of_lt hn]

theorem head_at (s : ByteArray) (h : 0 < s.size) : s.data.toList.head? = some (s[0]'h) := by
  rw [List.head?_eq_getElem?, List.getElem?_eq_getElem (by rw [len_toList]; exact h)]
  rfl

def SignPost (s : ByteArray) (w : World) (e : Ending) (w' : World) : Prop := e = .returned (.int .i64 (signLen s.data.toList)) ∧ w = w'

set_option maxHeartbeats 4000000 in
theorem sign_any (s : ByteArray) (w : World) (h : 0 < s.size) (hs : s.size ≤ 9223372036854775807) :
    Calls Try.prog 24 #[.string s] w (SignPost s w) := by
  have e2 : (s.extract 0 2).data.toList = s.data.toList.take 2 := by rw [Lib.extract_data]; simp
  have eh := head_at s h
  by_cases h2 : s.data.toList.take 2 ∈ signs2
  · have hl : signLen s.data.toList = 2 := by simp only [signLen]; rw [if_pos (by simpa using h2)]
    have hsz : 2 ≤ s.size := by
      rw [← len_toList]
      rcases Nat.lt_or_ge s.data.toList.length 2 with h3 | h3
      · exfalso
        have h4 : (s.data.toList.take 2).length = 2 := by
          simp only [signs2, List.mem_cons, List.not_mem_nil, or_false] at h2
          rcases h2 with h2 | h2 | h2 | h2 | h2 <;> rw [h2] <;> rfl
        rw [List.length_take] at h4
        omega
      · exact h3
    have HL := Lib.hid hl
    clear hl
    simp only [signs2, List.mem_cons, List.not_mem_nil, or_false] at h2
    rw [← e2] at h2
    clear e2
    rcases h2 with h2 | h2 | h2 | h2 | h2
    all_goals
      have e3 := bytes_of h2
      clear h2
      clear eh
      go_enter Try.func24, Try.ntmps24
      go_wp2
      go_ret
      exact ⟨by rw [HL.out]; rfl, rfl⟩
  · have hl2 : signs2.contains (s.data.toList.take 2) = false := by simpa using h2
    have n0 : ((s.extract 0 2).toList == [61, 61]) = false := list_no (fun e => h2 (by rw [← e2, e]; decide))
    have n1 : ((s.extract 0 2).toList == [33, 61]) = false := list_no (fun e => h2 (by rw [← e2, e]; decide))
    have n2 : ((s.extract 0 2).toList == [60, 61]) = false := list_no (fun e => h2 (by rw [← e2, e]; decide))
    have n3 : ((s.extract 0 2).toList == [38, 38]) = false := list_no (fun e => h2 (by rw [← e2, e]; decide))
    have n4 : ((s.extract 0 2).toList == [124, 124]) = false := list_no (fun e => h2 (by rw [← e2, e]; decide))
    clear h2 e2
    by_cases h1 : (s[0]'h) ∈ signs1
    · have hl : signLen s.data.toList = 1 := by simp only [signLen, hl2, eh]; simp [h1]
      have HL := Lib.hid hl
      clear hl hl2 eh
      simp only [signs1, List.mem_cons, List.not_mem_nil, or_false] at h1
      by_cases hsz : 2 ≤ s.size
      all_goals
        rcases h1 with h1 | h1 | h1 | h1 | h1 | h1 | h1 | h1 | h1 | h1 | h1 | h1 | h1
        all_goals
          have hb := congrArg UInt8.toNat h1
          clear h1
          simp only [UInt8.reduceToNat] at hb
          go_enter Try.func24, Try.ntmps24
          go_wp2
          go_ret
          exact ⟨by rw [HL.out]; rfl, rfl⟩
    · have hl : signLen s.data.toList = 0 := by simp only [signLen, hl2, eh]; simp [h1]
      have HL := Lib.hid hl
      have m0 : (((s[0]'h).toNat : Int) == 59) = false := byte_no _ 59 (by decide) (fun e => h1 (by rw [e]; decide))
      have m1 : (((s[0]'h).toNat : Int) == 44) = false := byte_no _ 44 (by decide) (fun e => h1 (by rw [e]; decide))
      have m2 : (((s[0]'h).toNat : Int) == 123) = false := byte_no _ 123 (by decide) (fun e => h1 (by rw [e]; decide))
      have m3 : (((s[0]'h).toNat : Int) == 125) = false := byte_no _ 125 (by decide) (fun e => h1 (by rw [e]; decide))
      have m4 : (((s[0]'h).toNat : Int) == 40) = false := byte_no _ 40 (by decide) (fun e => h1 (by rw [e]; decide))
      have m5 : (((s[0]'h).toNat : Int) == 41) = false := byte_no _ 41 (by decide) (fun e => h1 (by rw [e]; decide))
      have m6 : (((s[0]'h).toNat : Int) == 46) = false := byte_no _ 46 (by decide) (fun e => h1 (by rw [e]; decide))
      have m7 : (((s[0]'h).toNat : Int) == 61) = false := byte_no _ 61 (by decide) (fun e => h1 (by rw [e]; decide))
      have m8 : (((s[0]'h).toNat : Int) == 43) = false := byte_no _ 43 (by decide) (fun e => h1 (by rw [e]; decide))
      have m9 : (((s[0]'h).toNat : Int) == 45) = false := byte_no _ 45 (by decide) (fun e => h1 (by rw [e]; decide))
      have m10 : (((s[0]'h).toNat : Int) == 42) = false := byte_no _ 42 (by decide) (fun e => h1 (by rw [e]; decide))
      have m11 : (((s[0]'h).toNat : Int) == 33) = false := byte_no _ 33 (by decide) (fun e => h1 (by rw [e]; decide))
      have m12 : (((s[0]'h).toNat : Int) == 60) = false := byte_no _ 60 (by decide) (fun e => h1 (by rw [e]; decide))
      clear hl hl2 eh h1
      by_cases hsz : 2 ≤ s.size
      all_goals
        go_enter Try.func24, Try.ntmps24
        go_wp2
        go_ret
        exact ⟨by rw [HL.out]; rfl, rfl⟩

end Go.Proofs.Ytnmlejjdofbaiaa
