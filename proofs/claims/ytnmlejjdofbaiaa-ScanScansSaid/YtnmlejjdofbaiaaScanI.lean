/- Parts of the proofs of the laws of layer 1, scan (text ScanI). Conditions: none. -/
import Derived.Test.YtnmlejjdofbaiaaScanA
import Derived.Test.YtnmlejjdofbaiaaScanG
import Derived.Test.YtnmlejjdofbaiaaPlainOne
namespace Go.Proofs.Ytnmlejjdofbaiaa
open Go.RowKit

theorem beq_no {a b : Int} (h : a ≠ b) : (a == b) = false := by simpa using h
theorem beq_yes {a b : Int} (h : a = b) : (a == b) = true := by simpa using h

/-- A slice of texts. -/
def strCells (l : List (List UInt8)) : List Value := l.map fun x => .string (bs x)
def StrsPost (l : List (List UInt8)) (w : World) (e : Ending) (w' : World) : Prop :=
  e = .returned (.slice (some ⟨w.heap.size, 0, none⟩) l.length l.length) ∧ (∀ k (hk : k < l.length), w'.cell? ⟨w.heap.size, k, none⟩ = some (.string (bs l[k]))) ∧ Below w.heap.size w w'


theorem cells_new (w : World) (l : List (List UInt8)) (E : TypeId) (k : Nat) (hk : k < l.length) : (w.alloc (.cells (strCells l).toArray E)).cell? ⟨w.heap.size, k, none⟩ = some (.string (bs l[k])) := by
  simp only [World.cell?, heap_alloc_new]
  simp [strCells, hk]

set_option maxHeartbeats 1000000 in
theorem words_any (w : World) : Calls Try.prog 27 #[] w (StrsPost kws w) := by
  go_enter Try.func27, Try.ntmps27
  go_wp2
  go_ret
  exact ⟨rfl, cells_new w kws 9, (Below.refl _ _).alloc (Nat.le_refl _) _⟩

set_option maxHeartbeats 1000000 in
theorem signs_any (w : World) : Calls Try.prog 30 #[] w (StrsPost signsL w) := by
  go_enter Try.func30, Try.ntmps30
  go_wp2
  go_ret
  exact ⟨rfl, cells_new w signsL 9, (Below.refl _ _).alloc (Nat.le_refl _) _⟩

def RKeyPost (s : ByteArray) (w : World) (e : Ending) (w' : World) : Prop := e = .returned (.bool (kwB s.data.toList)) ∧ Below w.heap.size w w'

set_option maxHeartbeats 1000000 in
theorem refKeyword_any (s : ByteArray) (w : World) : Calls Try.prog 13 #[.string s] w (RKeyPost s w) := by
  go_enter Try.func13, Try.ntmps13
  go_wp2_with fail
  refine (words_any _).mono ?_
  rintro e w1 ⟨rfl, hc, hb⟩
  have Hc := Lib.hid hc; have Hb := Lib.hid hb
  clear hc hb
  have hlen : kws.length = 21 := rfl
  go_wp2
  go_loop [4] (fun i => ∃ k : Nat, i = .int .i64 k ∧ k ≤ 21 ∧ ∀ j (h : j < kws.length), j < k → kws[j] ≠ s.data.toList) (fun i => 21 - (intOf i).toNat)
  case atStart => exact ⟨0, rfl, by omega, fun j _ h => absurd h (by omega)⟩
  case round =>
    obtain ⟨k, rfl, hk, hall⟩ := hrel
    have Hall := Lib.hid hall; clear hall
    by_cases hlt : k < 21
    · have hlt' : k < kws.length := by rw [hlen]; exact hlt
      have hcell := Hc.out k hlt'
      by_cases he : kws[k] = s.data.toList
      · have he' : (kws[k] == s.toList) = true := by rw [ByteArray.toList_eq]; exact list_eq he
        have HK : Hid (kwB s.data.toList = true) := by
          simp only [Hid, kwB, ← he]
          rw [List.contains_iff_mem]
          exact List.getElem_mem hlt'
        clear he
        go_wp2
        go_ret
        exact ⟨by rw [HK.out]; rfl, Hb.out⟩
      · have he' : (kws[k] == s.toList) = false := by rw [ByteArray.toList_eq]; exact list_ne he
        go_wp2
        go_round
        case rel => exact ⟨k + 1, by go_num, by omega, fun j h1 h2 => by
            rcases Nat.lt_or_ge j k with h | h
            · exact Hall.out j h1 h
            · obtain rfl : j = k := by omega
              exact he⟩
        case measure => simp [intOf]; omega
    · have HK : Hid (kwB s.data.toList = false) := by
        simp only [Hid, kwB]
        rw [Bool.eq_false_iff]
        intro h
        rw [List.contains_iff_mem] at h
        have h2 := h
        obtain ⟨j, hj, e⟩ := List.getElem_of_mem h2
        exact Hall.out j hj (by rw [hlen] at hj; omega) e
      go_wp2
      go_ret
      exact ⟨by rw [HK.out]; rfl, Hb.out⟩

end Go.Proofs.Ytnmlejjdofbaiaa
