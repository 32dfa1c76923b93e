/- Parts of the proofs of the laws of layer 1, scan (text ScanE). Conditions: none. -/
import Derived.Test.YtnmlejjdofbaiaaScanB
namespace Go.Proofs.Ytnmlejjdofbaiaa
open Go.RowKit

theorem foldl_min_le (l : List UInt8) (n : Nat) (h : n ≤ 10000) : l.foldl (fun n c => min (10 * n + (c.toNat - 48)) 10000) n ≤ 10000 := by
  induction l generalizing n with
  | nil => exact h
  | cons a t ih => exact ih _ (by show min _ _ ≤ _; omega)

theorem valueL_le (l : List UInt8) : valueL l ≤ 10000 := foldl_min_le l 0 (by omega)

theorem valueL_snoc (s : ByteArray) (k : Nat) (hk : k < s.size) : valueL (s.data.toList.take (k + 1)) = min (10 * valueL (s.data.toList.take k) + ((s[k]'hk).toNat - 48)) 10000 := by
  have e : s.data.toList.take (k + 1) = s.data.toList.take k ++ [s[k]'hk] := by
    rw [List.take_succ_eq_append_getElem (by simpa using hk)]; rfl
  rw [e]
  simp [valueL]

set_option maxHeartbeats 1000000 in
theorem value_any (s : ByteArray) (w : World) (hs : s.size ≤ 9223372036854775807) (hd : ∀ k (hk : k < s.size), digitB s[k].toNat = true) :
    Calls Try.prog 23 #[.string s] w fun e w' => e = .returned (.int .i64 (valueL s.data.toList)) ∧ Below w.heap.size w w' := by
  have Hd := Lib.hid hd; clear hd
  go_enter Try.func23, Try.ntmps23
  go_wp2
  go_loopw [3] (fun v w' => ∃ pos : Nat, w' = w.iter s pos ∧ pos ≤ s.size ∧ v = .int .i64 (valueL (s.data.toList.take pos))) (fun _ w' => s.size - w'.iterPos w.heap.size)
  case atStart => exact ⟨0, rfl, by omega, rfl⟩
  case round =>
    obtain ⟨pos, rfl, hpos, rfl⟩ := hrel
    by_cases hlt : pos < s.size
    · have hdg := Hd.out pos hlt
      simp only [digitB, decide_eq_true_eq] at hdg
      obtain ⟨hd1, hd2⟩ := hdg
      have hnx : ∀ ty, (Instr.next (.pointer (some ⟨w.heap.size, 0, none⟩)) true ty).run Try.prog (w.iter s pos) = _ := fun ty => run_next_ascii w s pos ty hlt (by omega)
      have hv := valueL_le (s.data.toList.take pos)
      have HS := Lib.hid (valueL_snoc s pos hlt)
      go_wp2
      all_goals
        go_roundw
        case rel =>
          refine ⟨pos + 1, rfl, by omega, ?_⟩
          rw [HS.out]
          first | go_num | (congr 1; omega)
        case measure => simp; omega
    · have hnx : ∀ ty, (Instr.next (.pointer (some ⟨w.heap.size, 0, none⟩)) true ty).run Try.prog (w.iter s pos) = _ := fun ty => run_next_end w s pos ty hlt
      go_wp2
      go_ret
      refine ⟨?_, ((Below.refl _ _).alloc (Nat.le_refl _) _)⟩
      have e : s.data.toList.take pos = s.data.toList := List.take_of_length_le (by rw [len_toList]; omega)
      rw [e]; rfl

end Go.Proofs.Ytnmlejjdofbaiaa
