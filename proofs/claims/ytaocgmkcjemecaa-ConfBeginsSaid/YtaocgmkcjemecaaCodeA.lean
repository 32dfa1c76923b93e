/- The document's code: which code is right. Parts of the proofs of the laws of layers 6 to 22. Conditions: none. -/
import Derived.Test.YtaocgmkcjemecaaProg
import Derived.Test.YtaocgmkcjemecaaPlainUnit
namespace Go.Proofs.Ytaocgmkcjemecaa
open Go.RowKit
set_option linter.unusedVariables false
set_option linter.unusedSimpArgs false

theorem ib_no {a b : Int} (h : a ≠ b) : (a == b) = false := by simpa using h
theorem ib_yes {a b : Int} (h : a = b) : (a == b) = true := by simpa using h
theorem in_false {n m : Int} (h : n < 0 ∨ m ≤ n) : inB n m = false := by simp only [inB, decide_eq_false_iff_not]; omega
theorem in_true {n m : Int} (h : 0 ≤ n ∧ n < m) : inB n m = true := by simp only [inB, decide_eq_true_eq]; exact h

set_option maxHeartbeats 400000 in
theorem in06_any (a b : Int) (w : World) : Calls Try.prog 85 #[.int .i64 a, .int .i64 b] w fun e w' => e = .returned (.bool (inB a b)) ∧ w = w' := by
  go_enter Try.func85, Try.ntmps85
  go_wp2
  all_goals
    go_ret
    refine ⟨congrArg (fun b => Ending.returned (.bool b)) ?_, rfl⟩
    rw [Bool.eq_iff_iff]
    simp [inB]
    try omega

def LiesPost (l : List OpS) (w : World) (e : Ending) (w' : World) : Prop := e = .returned (.tuple #[.int .i64 (liesL l).1, .int .i64 (liesL l).2]) ∧ w = w'

theorem lies_drop {l : List OpS} {k : Nat} (hk : k < l.length) (n m : Int) : liesGo (l.drop k) n m =
    if 1 ≤ l[k].op ∧ l[k].op ≤ 4 then liesGo (l.drop (k + 1)) (n + 1) (max m (n + 1))
    else if l[k].op = 5 ∧ 1 ≤ n then liesGo (l.drop (k + 1)) n (max m n)
    else if 6 ≤ l[k].op ∧ l[k].op ≤ 14 ∧ 2 ≤ n then liesGo (l.drop (k + 1)) (n - 1) (max m (n - 1))
    else (-1, -1) := by
  rw [List.drop_eq_getElem_cons hk, liesGo]

set_option maxRecDepth 100000 in
set_option maxHeartbeats 4000000 in
theorem lies06_any (l : List OpS) (v : Value) (w : World) (hv : Sl rOp w v l) : Calls Try.prog 101 #[v] w (LiesPost l w) := by
  have hl := hv.len
  obtain ⟨a, c, rfl, hc⟩ := ops_view hv
  have HC := Lib.hid hc; clear hc hv
  go_enter Try.func101, Try.ntmps101
  go_wp2
  go_loop [4, 5, 6] (fun n m i => ∃ (k : Nat) (nn mm : Int), i = .int .i64 k ∧ n = .int .i64 nn ∧ m = .int .i64 mm ∧ k ≤ l.length ∧ 0 ≤ nn ∧ nn ≤ k ∧ 0 ≤ mm ∧ mm ≤ k ∧ liesGo (l.drop k) nn mm = liesL l) (fun _ _ i => l.length - (intOf i).toNat)
  case atStart => exact ⟨0, 0, 0, rfl, rfl, rfl, by omega, by omega, by omega, by omega, by omega, rfl⟩
  case round =>
    obtain ⟨k, nn, mm, rfl, rfl, rfl, hk, hn1, hn2, hm1, hm2, hrel⟩ := hrel
    have HR := Lib.hid hrel; clear hrel
    by_cases hlt : k < l.length
    · obtain ⟨b, o, rfl, x1, _, _, _⟩ := HC.out k hlt
      have HD := Lib.hid (lies_drop hlt nn mm)
      obtain ⟨op, hop⟩ : ∃ op, l[k].op = op := ⟨_, rfl⟩
      rw [hop] at x1 HD
      clear hop
      by_cases c1 : 1 ≤ op ∧ op ≤ 4
      · obtain ⟨c1a, c1b⟩ := c1
        go_wp2
        all_goals
          go_round
          case rel => exact ⟨k + 1, nn + 1, max mm (nn + 1), by go_num, by go_num, by go_num, by omega, by omega, by omega, by omega, by omega, by rw [← HR.out, HD.out, if_pos ⟨c1a, c1b⟩]⟩
          case measure => simp [intOf]; omega
      · by_cases c2 : op = 5 ∧ 1 ≤ nn
        · obtain ⟨c2a, c2b⟩ := c2
          subst c2a
          go_wp2
          all_goals
            go_round
            case rel => exact ⟨k + 1, nn, max mm nn, by go_num, by go_num, by go_num, by omega, by omega, by omega, by omega, by omega, by rw [← HR.out, HD.out, if_neg c1, if_pos ⟨rfl, c2b⟩]⟩
            case measure => simp [intOf]; omega
        · by_cases c3 : 6 ≤ op ∧ op ≤ 14 ∧ 2 ≤ nn
          · obtain ⟨c3a, c3b, c3c⟩ := c3
            have d5 : (op == 5) = false := ib_no (by omega)
            go_wp2
            all_goals
              go_round
              case rel => exact ⟨k + 1, nn - 1, max mm (nn - 1), by go_num, by go_num, by go_num, by omega, by omega, by omega, by omega, by omega, by rw [← HR.out, HD.out, if_neg c1, if_neg c2, if_pos ⟨c3a, c3b, c3c⟩]⟩
              case measure => simp [intOf]; omega
          · have HF := Lib.hid (show liesL l = (-1, -1) by rw [← HR.out, HD.out, if_neg c1, if_neg c2, if_neg c3])
            have hd5 : op = 5 ∨ op ≠ 5 := by omega
            rcases hd5 with h5 | h5
            · subst h5
              have hnn : nn < 1 := by omega
              clear c1 c2 c3
              go_wp2
              go_ret2
              exact ⟨by rw [HF.out]; rfl, rfl⟩
            · have d5 : (op == 5) = false := ib_no h5
              by_cases h1 : op < 1
              · clear c1 c2 c3 h5
                go_wp2
                go_ret2
                exact ⟨by rw [HF.out]; rfl, rfl⟩
              · by_cases h14 : 14 < op
                · clear c1 c2 c3 h5
                  go_wp2
                  go_ret2
                  exact ⟨by rw [HF.out]; rfl, rfl⟩
                · have h6 : 6 ≤ op := by omega
                  have h2 : nn < 2 := by omega
                  clear c1 c2 c3 h5
                  go_wp2
                  go_ret2
                  exact ⟨by rw [HF.out]; rfl, rfl⟩
    · have hd : l.drop k = [] := List.drop_eq_nil_of_le (by omega)
      have HF := Lib.hid (show liesL l = (nn, mm) by rw [← HR.out, hd]; rfl)
      go_wp2
      go_ret2
      exact ⟨by rw [HF.out]; rfl, rfl⟩

set_option maxHeartbeats 1000000 in
theorem all06_any (l : List Int) (mod : Int) (v : Value) (w : World) (hv : Sl rI w v l) :
    Calls Try.prog 59 #[v, .int .i64 mod] w fun e w' => e = .returned (.bool (allIn l mod)) ∧ w = w' := by
  have hl := hv.len
  obtain ⟨a, c, rfl, hc⟩ := ints_view hv
  have HC := Lib.hid hc; clear hc hv
  go_enter Try.func59, Try.ntmps59
  go_wp2
  go_loop [5] (fun i => ∃ k : Nat, i = .int .i64 k ∧ k ≤ l.length ∧ ∀ j (h : j < l.length), j < k → inB l[j] mod = true) (fun i => l.length - (intOf i).toNat)
  case atStart => exact ⟨0, rfl, by omega, fun j _ h => absurd h (by omega)⟩
  case round =>
    obtain ⟨k, rfl, hk, hall⟩ := hrel
    have Hall := Lib.hid hall; clear hall
    by_cases hlt : k < l.length
    · obtain ⟨b, o, rfl, x1, _⟩ := HC.out k hlt
      by_cases h1 : inB l[k] mod = true
      · go_wp2_with (first | (go_at_call 85; refine (in06_any _ _ _).mono ?_; rintro e w' ⟨rfl, rfl⟩))
        go_round
        case rel => exact ⟨k + 1, by go_num, by omega, fun j h2 h3 => by
          rcases Nat.lt_or_ge j k with h | h
          · exact Hall.out j h2 h
          · obtain rfl : j = k := by omega
            exact h1⟩
        case measure => simp [intOf]; omega
      · have h1' : inB l[k] mod = false := by simpa using h1
        clear h1
        go_wp2_with (first | (go_at_call 85; refine (in06_any _ _ _).mono ?_; rintro e w' ⟨rfl, rfl⟩))
        go_ret
        exact ⟨by rw [allIn_bad hlt h1']; rfl, rfl⟩
    · go_wp2
      go_ret
      exact ⟨by rw [allIn_good fun j hj => Hall.out j hj (by omega)]; rfl, rfl⟩

end Go.Proofs.Ytaocgmkcjemecaa
