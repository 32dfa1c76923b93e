/- Parts of the proofs of the laws of layer 1, scan (text ScanG). Conditions: none. -/
import Derived.Test.YtnmlejjdofbaiaaRows
import Derived.Test.YtnmlejjdofbaiaaTok
namespace Go.Proofs.Ytnmlejjdofbaiaa
open Go.RowKit

def SamePost (la lb : List Tok) (p : Bool) (w : World) (e : Ending) (w' : World) : Prop := e = .returned (.bool (toksEq p la lb)) ∧ Still w w'

theorem bne_no {a b : Int} (h : a = b) : (a != b) = false := by simpa using h
theorem bne_yes {a b : Int} (h : a ≠ b) : (a != b) = true := by simpa using h
theorem list_ne {a b : List UInt8} (h : a ≠ b) : (a == b) = false := by simpa using h
theorem list_eq {a b : List UInt8} (h : a = b) : (a == b) = true := by simpa using h

theorem same_bad {la lb : List Tok} {p : Bool} {k : Nat} {w w' : World} (h1 : k < la.length) (h2 : k < lb.length) (h : tokEq la[k] lb[k] p = false) (hw : Still w w') : SamePost la lb p w (.returned (.bool false)) w' := ⟨by rw [toksEq_bad p la lb k h1 h2 h], hw⟩

set_option maxHeartbeats 4000000 in
theorem same_any (la lb : List Tok) (va vb : Value) (p : Bool) (w : World) (ha : Toks w va la) (hb : Toks w vb lb) (ma : la.length ≤ 9223372036854775807) (_mb : lb.length ≤ 9223372036854775807) :
    Calls Try.prog 11 #[va, vb, .bool p] w (SamePost la lb p w) := by
  obtain ⟨a1, c1, rfl, hc1⟩ := ha.view
  obtain ⟨a2, c2, rfl, hc2⟩ := hb.view
  clear ha hb
  by_cases hl : la.length = lb.length
  · have Hl := Lib.hid hl; have Hc1 := Lib.hid hc1; have Hc2 := Lib.hid hc2
    have hle1 : la.length ≤ lb.length := by omega
    have hle2 : lb.length ≤ la.length := by omega
    have hne : ((la.length : Int) != lb.length) = false := by rw [hl]; simp
    clear hl hc1 hc2
    go_enter Try.func11, Try.ntmps11
    go_wp2
    go_loopw [7] (fun i w' => ∃ k n : Nat, i = .int .i64 k ∧ k ≤ la.length ∧ w' = w.drewN n ∧ ∀ j (h1 : j < la.length) (h2 : j < lb.length), j < k → tokEq la[j] lb[j] p = true) (fun i _ => la.length - (intOf i).toNat)
    case atStart => exact ⟨0, 0, rfl, by omega, rfl, fun j _ _ h => absurd h (by omega)⟩
    case round =>
      obtain ⟨k, m, rfl, hk, rfl, hall⟩ := hrel
      have Hall := Lib.hid hall; clear hall
      by_cases hlt : k < la.length
      · have hlt2 : k < lb.length := by omega
        obtain ⟨b1, o1, rfl, x1, x2, x3, x4⟩ := Hc1.out k hlt
        obtain ⟨b2, o2, rfl, y1, y2, y3, y4⟩ := Hc2.out k hlt2
        by_cases h1 : la[k].kind = lb[k].kind
        · have h1' := bne_no h1
          by_cases h2 : la[k].text = lb[k].text
          · have h2' := list_eq h2
            by_cases h3 : la[k].n = lb[k].n
            · have h3' := bne_no h3
              by_cases h4 : p = true ∧ la[k].at' ≠ lb[k].at'
              · obtain ⟨rfl, h4⟩ := h4
                have h4' := bne_yes h4
                have HB : Hid (tokEq la[k] lb[k] true = false) := by simp only [Hid, tokEq]; simp [h4]
                clear h1 h2 h3 h4
                go_wp2
                go_quiet (fail)
                go_wp2
                go_ret
                exact same_bad hlt hlt2 HB.out ⟨m + nq, (World.drewN_drewN ..)⟩
              · have HB : Hid (tokEq la[k] lb[k] p = true) := by
                  simp only [Hid, tokEq, h1, h2, h3, decide_true, Bool.true_and]
                  cases p with
                  | false => rfl
                  | true => simpa using h4
                cases p with
                | false =>
                  clear h1 h2 h3 h4
                  go_wp2
                  go_quiet (fail)
                  go_wp2
                  go_roundw
                  case rel => exact ⟨k + 1, m + nq, by go_num, by omega, rfl, fun j h1 h2 h3 => by
                    rcases Nat.lt_or_ge j k with h | h
                    · exact Hall.out j h1 h2 h
                    · obtain rfl : j = k := by omega
                      exact HB.out⟩
                  case measure => simp [intOf]; omega
                | true =>
                  have h4' := bne_no (show la[k].at' = lb[k].at' from by simpa using h4)
                  clear h1 h2 h3 h4
                  go_wp2
                  go_quiet (fail)
                  go_wp2
                  go_roundw
                  case rel => exact ⟨k + 1, m + nq, by go_num, by omega, rfl, fun j h1 h2 h3 => by
                    rcases Nat.lt_or_ge j k with h | h
                    · exact Hall.out j h1 h2 h
                    · obtain rfl : j = k := by omega
                      exact HB.out⟩
                  case measure => simp [intOf]; omega
            · have h3' := bne_yes h3
              have HB : Hid (tokEq la[k] lb[k] p = false) := by simp only [Hid, tokEq]; simp [h3]
              clear h1 h2 h3
              go_wp2
              go_quiet (fail)
              go_wp2
              go_ret
              exact same_bad hlt hlt2 HB.out ⟨m + nq, (World.drewN_drewN ..)⟩
          · have h2' := list_ne h2
            have HB : Hid (tokEq la[k] lb[k] p = false) := by simp only [Hid, tokEq]; simp [h2]
            clear h1 h2
            go_wp2
            go_quiet (fail)
            go_wp2
            go_ret
            exact same_bad hlt hlt2 HB.out ⟨m + nq, (World.drewN_drewN ..)⟩
        · have h1' := bne_yes h1
          have HB : Hid (tokEq la[k] lb[k] p = false) := by simp only [Hid, tokEq]; simp [h1]
          clear h1
          go_wp2
          go_quiet (fail)
          go_wp2
          go_ret
          exact same_bad hlt hlt2 HB.out ⟨m + nq, (World.drewN_drewN ..)⟩
      · go_wp2
        go_ret
        exact ⟨by rw [toksEq_good p la lb Hl.out (fun j h1 h2 => Hall.out j h1 h2 (by omega))]; rfl, ⟨m, rfl⟩⟩
  · have hne : ((la.length : Int) != lb.length) = true := bne_yes (by omega)
    go_enter Try.func11, Try.ntmps11
    clear hc1 hc2
    go_wp2
    go_ret
    exact ⟨by rw [toksEq_length p la lb hl]; rfl, Still.refl _⟩

end Go.Proofs.Ytnmlejjdofbaiaa
