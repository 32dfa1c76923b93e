/- Parts of the proofs of the laws of layer 1, scan (text ScanH). Conditions: none. -/
import Derived.Test.YtnmlejjdofbaiaaRows
import Derived.Test.YtnmlejjdofbaiaaShow
import Derived.Test.YtnmlejjdofbaiaaScanG
namespace Go.Proofs.Ytnmlejjdofbaiaa
open Go.RowKit

def ShowPost (l : List Tok) (w : World) (e : Ending) (w' : World) : Prop := e = .returned (.string (bs (showB l l.length))) ∧ Below w.heap.size w w'

set_option maxHeartbeats 2000000 in
theorem show_any (l : List Tok) (v : Value) (m : Nat) (w : World) (hv : Toks w v l) (hl : l.length ≤ 1000000) (hm : m ≤ 1000000) (ht : ∀ t ∈ l, t.text.length ≤ m) :
    Calls Try.prog 16 #[v] w (ShowPost l w) := by
  obtain ⟨a, c, rfl, hc⟩ := hv.view
  have Hv := Lib.hid hv; have Hc := Lib.hid hc
  have Hs := Lib.hid (showB_size l m ht)
  have Ht := Lib.hid ht
  clear hv hc ht
  go_enter Try.func16, Try.ntmps16
  go_wp2
  go_loopw [3, 8] (fun s i w' => ∃ k : Nat, i = .int .i64 k ∧ k ≤ l.length ∧ s = .string (bs (showB l k)) ∧ Below w.heap.size w w') (fun _ i _ => l.length - (intOf i).toNat)
  case atStart => exact ⟨0, rfl, by omega, rfl, Below.refl _ _⟩
  case round =>
    obtain ⟨k, rfl, hk, rfl, hb⟩ := hrel
    have hsz := Hs.out k
    have hsz2 : (showB l k).length ≤ 2000000000000 := Nat.le_trans hsz (Nat.le_trans (Nat.mul_le_mul (show k ≤ 1000000 by omega) (show m + 1 ≤ 1000001 by omega)) (by decide))
    clear hsz
    have Hb := Lib.hid hb
    have hb' := hb.size
    clear hb
    by_cases hlt : k < l.length
    · obtain ⟨b, o, rfl, x1, x2, x3, x4⟩ := Hc.out k hlt
      have htx := Ht.out l[k] (List.getElem_mem hlt)
      have y1 := cell_later Hb.out x1
      have y2 := cell_later Hb.out x2
      have y3 := cell_later Hb.out x3
      have y4 := cell_later Hb.out x4
      clear x1 x2 x3 x4
      have HS := Lib.hid (showB_succ l k hlt)
      go_wp2
      all_goals
        go_roundw
        case rel => exact ⟨k + 1, by go_num, by omega, by rw [HS.out]; first | rw [if_pos (by omega), ← bs_append, ← bs_append] | rw [if_neg (by omega), ← bs_append], Hb.out.alloc (by omega) _⟩
        case measure => simp [intOf]; omega
    · go_wp2
      go_ret
      obtain rfl : k = l.length := by omega
      exact ⟨rfl, Hb.out⟩

set_option maxHeartbeats 2000000 in
theorem refShow_any (l : List Tok) (v : Value) (m : Nat) (w : World) (hv : Toks w v l) (hl : l.length ≤ 1000000) (hm : m ≤ 1000000) (ht : ∀ t ∈ l, t.text.length ≤ m) :
    Calls Try.prog 17 #[v] w (ShowPost l w) := by
  obtain ⟨a, c, rfl, hc⟩ := hv.view
  have Hv := Lib.hid hv; have Hc := Lib.hid hc
  have Hs := Lib.hid (showB_size l m ht)
  have Ht := Lib.hid ht
  clear hv hc ht
  go_enter Try.func17, Try.ntmps17
  go_wp2
  go_loop [3, 4] (fun s i => ∃ k : Nat, i = .int .i64 k ∧ k ≤ l.length ∧ s = .string (bs (showB l k))) (fun _ i => l.length - (intOf i).toNat)
  case atStart => exact ⟨0, rfl, by omega, rfl⟩
  case round =>
    obtain ⟨k, rfl, hk, rfl⟩ := hrel
    have hsz := Hs.out k
    have hsz2 : (showB l k).length ≤ 2000000000000 := Nat.le_trans hsz (Nat.le_trans (Nat.mul_le_mul (show k ≤ 1000000 by omega) (show m + 1 ≤ 1000001 by omega)) (by decide))
    clear hsz
    by_cases hlt : k < l.length
    · obtain ⟨b, o, rfl, x1, x2, x3, x4⟩ := Hc.out k hlt
      have htx := Ht.out l[k] (List.getElem_mem hlt)
      have HS := Lib.hid (showB_succ l k hlt)
      go_wp2
      all_goals
        go_round
        case rel => exact ⟨k + 1, by go_num, by omega, by rw [HS.out]; first | rw [if_pos (by omega), ← bs_append, ← bs_append] | rw [if_neg (by omega), ← bs_append]⟩
        case measure => simp [intOf]; omega
    · go_wp2
      go_ret
      obtain rfl : k = l.length := by omega
      exact ⟨rfl, Below.refl _ _⟩

end Go.Proofs.Ytnmlejjdofbaiaa
