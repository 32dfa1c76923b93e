/- Parts of the proofs of the laws of layer 1, scan (text ScanB). Conditions: none. -/
import Derived.Test.YtnmlejjdofbaiaaScanA
namespace Go.Proofs.Ytnmlejjdofbaiaa
open Go.RowKit

theorem width_pos (s : ByteArray) (pos : Nat) (h : pos < s.size) : 1 ≤ (Utf8.decode s pos).2 := by
  by_cases ha : (s[pos]'h).toNat < 128
  · rw [decode_ascii s pos h ha]
    exact Nat.le_refl _
  · exact (decode_high s pos h (by omega)).2

/-- What a kind says of a rune it says of each of its bytes. -/
theorem rune_kind (p : Int → Bool) (hp : ∀ c, 128 ≤ c → p c = p 128) (s : ByteArray) (pos : Nat) (h : pos < s.size) :
    pos + (Utf8.decode s pos).2 ≤ s.size ∧ p (s[pos]'h).toNat = p (Utf8.decode s pos).1 ∧ (p (Utf8.decode s pos).1 = true → ∀ k (hk : k < s.size), pos ≤ k → k < pos + (Utf8.decode s pos).2 → p s[k].toNat = true) := by
  by_cases ha : (s[pos]'h).toNat < 128
  · have e := decode_ascii s pos h ha
    rw [e]
    refine ⟨by simp; omega, rfl, fun hq k hk h1 h2 => ?_⟩
    simp only at h2
    obtain rfl : k = pos := by omega
    exact hq
  · have hd := decode_high s pos h (by omega)
    have hb := decode_bytes s pos h (by omega)
    refine ⟨hb.1, ?_, fun hq k hk h1 h2 => ?_⟩
    · rw [hp _ (by omega), hp (Utf8.decode s pos).1 (by omega)]
    · rw [hp _ (by have := hb.2 k hk h1 h2; omega), ← hp (Utf8.decode s pos).1 (by omega)]
      exact hq

set_option maxHeartbeats 400000 in
theorem run_any (s : ByteArray) (f : Nat) (p : Int → Bool) (w : World) (hs : s.size ≤ 9223372036854775807)
    (hcf : ∀ (args : Array Value) (w : World), (callFunc f args).run Try.prog w = .ok (.enter f args) w)
    (hf : ∀ (c : Int) (w : World), Calls Try.prog f #[.int .i32 c] w fun e w' => e = .returned (.bool (p c)) ∧ w = w') (hp : ∀ c, 128 ≤ c → p c = p 128) :
    Calls Try.prog 18 #[.string s, .func (.func f) #[] #[]] w fun e w' => e = .returned (.int .i64 (runLen p s.data.toList)) ∧ Below w.heap.size w w' := by
  have Hf := Lib.hid hf; clear hf
  have Hp := Lib.hid hp; clear hp
  go_enter Try.func18, Try.ntmps18
  go_wp2
  go_loopw [] (fun w' => ∃ pos : Nat, w' = w.iter s pos ∧ pos ≤ s.size ∧ ∀ k (hk : k < s.size), k < pos → p s[k].toNat = true) (fun w' => s.size - w'.iterPos w.heap.size)
  case atStart => exact ⟨0, rfl, by omega, fun k _ h => absurd h (by omega)⟩
  case round =>
    obtain ⟨pos, rfl, hpos, hall⟩ := hrel
    have Hall := Lib.hid hall; clear hall
    by_cases hlt : pos < s.size
    · have hnx : ∀ ty, (Instr.next (.pointer (some ⟨w.heap.size, 0, none⟩)) true ty).run Try.prog (w.iter s pos) = _ := fun ty => run_next_any w s pos ty hlt
      have RK := Lib.hid (rune_kind p Hp.out s pos hlt)
      have hwd := width_pos s pos hlt
      go_wp2_with fail
      refine (Hf.out _ _).mono ?_
      rintro e w' ⟨rfl, rfl⟩
      by_cases hk : p (Utf8.decode s pos).1 = true
      · go_wp2
        go_roundw
        case rel =>
          refine ⟨pos + (Utf8.decode s pos).2, rfl, RK.out.1, fun k hk' hk2 => ?_⟩
          rcases Nat.lt_or_ge k pos with h | h
          · exact Hall.out k hk' h
          · exact RK.out.2.2 hk k hk' h hk2
        case measure => simp; omega
      · have hk' : p (Utf8.decode s pos).1 = false := by simpa using hk
        go_wp2
        go_ret
        refine ⟨?_, ((Below.refl _ _).alloc (Nat.le_refl _) _)⟩
        have e : runLen p s.data.toList = pos := runLen_stop (fun k hk1 hk2 => Hall.out k hk1 hk2) (by rw [len_toList]; exact hlt) (by have := RK.out.2.1; rw [hk'] at this; exact this)
        rw [e]; rfl
    · have hnx : ∀ ty, (Instr.next (.pointer (some ⟨w.heap.size, 0, none⟩)) true ty).run Try.prog (w.iter s pos) = _ := fun ty => run_next_end w s pos ty hlt
      go_wp2
      go_ret
      refine ⟨?_, ((Below.refl _ _).alloc (Nat.le_refl _) _)⟩
      have e : runLen p s.data.toList = s.size := by
        rw [runLen_all (fun k hk => Hall.out k hk (by rw [len_toList] at hk; omega)), len_toList]
      rw [e]; rfl

end Go.Proofs.Ytnmlejjdofbaiaa
