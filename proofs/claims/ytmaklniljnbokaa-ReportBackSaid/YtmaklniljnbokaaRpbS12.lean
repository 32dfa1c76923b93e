/- Parts of the proofs: what they lean on. Conditions: none. -/
import Derived.Laws.RangeString
import Derived.Laws.RangeAny
import Derived.Test.YtmaklniljnbokaaRpbS11
section
namespace Go.Proofs.Ytmaklniljnbokaa
open Go.RowKit
set_option linter.unusedVariables false
set_option linter.unusedSimpArgs false
set_option maxRecDepth 100000

/-- Digits read on. -/
def numGo : List UInt8 → Int → Option Int
  | [], n => some n
  | c :: l, n => if 48 ≤ c.toNat ∧ c.toNat ≤ 57 then numGo l (10 * n + ((c.toNat : Int) - 48)) else none
def numT (s : List UInt8) (lo hi : Int) : Int × Bool := match numGo s 0 with
  | some n => (n, decL n == s && (decide (lo ≤ n) && decide (n ≤ hi)))
  | none => (0, false)
def numR (l : List (List UInt8)) (lo hi : Int) : Int × Bool := match l with
  | [_, s] => if s.length ≤ 8 then numT s lo hi else (0, false)
  | _ => (0, false)

/-- A row of texts lies there. -/
def StrsAt (w : World) (r : Value) (l : List (List UInt8)) : Prop := ∃ a cap, r = .slice a l.length cap ∧ l.length ≤ cap ∧ cap ≤ maxLen ∧ ∀ i (h : i < l.length), l[i].length ≤ maxLen ∧ ∃ b o, a = some ⟨b, o, none⟩ ∧ w.cell? ⟨b, o + i, none⟩ = some (.string (bs l[i]))
theorem strs_of {S : Nat → Nat → Prop} {w : World} {r : Value} {l : List (List UInt8)} (h : Rep S w [] [] (.sl 1 (l.map fun s => [.str s])) r) : StrsAt w r l := by
  obtain ⟨vss, a, cap, h1, h2, h3, rfl⟩ := h.sl_inv
  refine ⟨a, cap, by rw [List.length_map], by have := h3.1; rwa [List.length_map] at this, h3.2.1, fun i hi => ?_⟩
  obtain ⟨vs, hv, hr, _⟩ := h1.get (i := i) (el := [.str l[i]]) (by rw [List.getElem?_map, List.getElem?_eq_getElem hi]; rfl)
  cases hr with | cons _ _ _ x _ _ h1 hr =>
  cases hr
  obtain ⟨rfl, hl⟩ := h1.str_inv
  obtain ⟨b, o, e, _, hc⟩ := h2.2 i _ 0 _ hv rfl
  exact ⟨hl, b, o, e, by simpa using hc⟩
theorem numGo_high {l : List UInt8} {n : Int} {pos : Nat} (h : pos < l.length) (hc : l[pos].toNat < 48 ∨ 57 < l[pos].toNat) : numGo (l.drop pos) n = none := by
  rw [List.drop_eq_getElem_cons h, numGo, if_neg (by omega)]
theorem numGo_next {l : List UInt8} {n : Int} {pos : Nat} (h : pos < l.length) (h1 : 48 ≤ l[pos].toNat) (h2 : l[pos].toNat ≤ 57) : numGo (l.drop pos) n = numGo (l.drop (pos + 1)) (10 * n + ((l[pos].toNat : Int) - 48)) := by
  rw [List.drop_eq_getElem_cons h, numGo, if_pos ⟨h1, h2⟩]

theorem within_any (n lo hi : Int) (w : World) (h1 : (Lit.int .i64 n).wf = true) (h2 : (Lit.int .i64 lo).wf = true) (h3 : (Lit.int .i64 hi).wf = true) : Calls Try.prog 17 #[.int .i64 n, .int .i64 lo, .int .i64 hi] w fun e w' => e = .returned (.bool (decide (lo ≤ n) && decide (n ≤ hi))) ∧ Below w.heap.size w w' := by
  have : callN Try.prog HH XM 10 17 [.int .i64 n, .int .i64 lo, .int .i64 hi] [] = some (.bool (decide (lo ≤ n) && decide (n ≤ hi)), []) := by
    refine callN_eq' Try.func17 rfl rfl rfl (by show 3 ≤ _; decide) ?_
    intro call hc
    conv => lhs; whnf
    by_cases c1 : lo ≤ n
    · repeat (first | (refine wkp ?_; conv => lhs; whnf) | (refine wkn ?_; conv => lhs; whnf) | (simp only [Int.toNat_natCast, hc]; conv => lhs; whnf))
      rw [decide_eq_true c1, Bool.true_and]
      rfl
    · repeat (first | (refine wkp ?_; conv => lhs; whnf) | (refine wkn ?_; conv => lhs; whnf) | (simp only [Int.toNat_natCast, hc]; conv => lhs; whnf))
      rw [decide_eq_false c1, Bool.false_and]
      rfl
  exact (call_rep this (vs := [.int .i64 n, .int .i64 lo, .int .i64 hi]) (.cons _ _ _ _ _ _ (.int _ _ _ _ h1) (.cons _ _ _ _ _ _ (.int _ _ _ _ h2) (.cons _ _ _ _ _ _ (.int _ _ _ _ h3) (.nil _ _))))).mono fun e w' ⟨r, S', e1, h2, h3⟩ => ⟨by rw [e1, h3.bool_inv], h2⟩
theorem rpdec_any (n : Int) (w : World) (h0 : 0 ≤ n) (h1 : n ≤ 1000000000000) : Calls Try.prog 33 #[.int .i64 n] w fun e w' => e = .returned (.string (bs (decL n))) ∧ Below w.heap.size w w' :=
  (call_rep (n := n.toNat + 2) (rpdec_abs (X := XM) rfl (n.toNat + 2) n h0 h1 (by omega)) (vs := [.int .i64 n]) (.cons _ _ _ _ _ _ (.int _ _ _ _ (wf_of (by omega))) (.nil _ _))).mono fun e w' ⟨r, S', e1, h2, h3⟩ => ⟨by rw [e1, h3.str_inv.1], h2⟩

set_option maxHeartbeats 4000000 in
theorem number_bad (l : List (List UInt8)) (lo hi : Int) (v : Value) (w : World) (hv : StrsAt w v l) (hb : l.length ≠ 2 ∨ ∃ h : 1 < l.length, 8 < l[1].length) : Calls Try.prog 38 #[v, .int .i64 lo, .int .i64 hi] w fun e w' => e = .returned (.tuple #[.int .i64 0, .bool false]) ∧ Below w.heap.size w w' := by
  obtain ⟨a, cap, rfl, hc1, hc2, hcells⟩ := hv
  by_cases h2 : l.length = 2
  · obtain ⟨h1, h8⟩ := hb.resolve_left (by omega)
    obtain ⟨hm, b, o, rfl, hcell⟩ := hcells 1 h1
    obtain ⟨s, hs⟩ : ∃ s, l[1] = s := ⟨_, rfl⟩
    rw [hs] at hm h8 hcell
    rw [h2] at hc1 ⊢
    clear hcells hb hs
    have e8 : (8 : Int) < ((bs s).size : Nat) := by show (8 : Int) < (s.length : Nat); omega
    go_enter Try.func38, Try.ntmps38
    go_wp2_with fail
    exact bodyPost_ret (v := .tuple #[.int .i64 0, .bool false]) (by simp [results, Try.results38, go_sem]) rfl ⟨rfl, Below.refl _ _⟩
  · obtain ⟨n, hn⟩ : ∃ n, l.length = n := ⟨_, rfl⟩
    rw [hn] at hc1 ⊢
    have hg : ((n : Int) == 2) = false := beq_eq_false_iff_ne.2 (by omega)
    clear hcells hb
    go_enter Try.func38, Try.ntmps38
    go_wp2_with fail
    exact bodyPost_ret (v := .tuple #[.int .i64 0, .bool false]) (by simp [results, Try.results38, go_sem]) rfl ⟨rfl, Below.refl _ _⟩
set_option maxHeartbeats 4000000 in
theorem number_good (l : List (List UInt8)) (lo hi : Int) (v : Value) (w : World) (hv : StrsAt w v l) (h2 : l.length = 2) (h8 : l[1].length ≤ 8) (hlo : (Lit.int .i64 lo).wf = true) (hhi : (Lit.int .i64 hi).wf = true) : Calls Try.prog 38 #[v, .int .i64 lo, .int .i64 hi] w fun e w' => e = .returned (.tuple #[.int .i64 (numT l[1] lo hi).1, .bool (numT l[1] lo hi).2]) ∧ Below w.heap.size w w' := by
  obtain ⟨a, cap, rfl, hc1, hc2, hcells⟩ := hv
  obtain ⟨hm, b, o, rfl, hcell⟩ := hcells 1 (by omega)
  obtain ⟨s, hs⟩ : ∃ s, l[1] = s := ⟨_, rfl⟩
  rw [hs] at hm h8 hcell ⊢
  rw [h2] at hc1 ⊢
  clear hcells hs
  obtain ⟨z, hz⟩ : ∃ z, numT s lo hi = z := ⟨_, rfl⟩
  rw [hz]
  have HZ := Lib.hid hz
  clear hz
  have e8 : ((bs s).size : Int) ≤ 8 := by show ((s.length : Nat) : Int) ≤ 8; omega
  go_enter Try.func38, Try.ntmps38
  go_wp2_with fail
  have hb0 : ∀ pos, Below w.heap.size w (w.iter (bs s) pos) := fun pos => (Below.refl _ _).alloc (Nat.le_refl _) _
  have HB := Lib.hid hb0
  clear hb0
  go_loopw [8] (fun n wr => ∃ (pos : Nat) (acc : Int), wr = w.iter (bs s) pos ∧ n = .int .i64 acc ∧ Hid (numGo (s.drop pos) acc = numGo s 0) ∧ 0 ≤ acc ∧ acc < 10 ^ pos ∧ pos ≤ s.length) (fun _ wr => s.length - wr.iterPos w.heap.size)
  case atStart => exact ⟨0, 0, rfl, rfl, rfl, by omega, by decide, by omega⟩
  case round =>
    obtain ⟨pos, acc, rfl, rfl, HG, ha0, ha1, hps⟩ := hrel
    have hpow : (10 : Int) ^ pos ≤ 10 ^ 8 := by
      have : (10 : Nat) ^ pos ≤ 10 ^ 8 := Nat.pow_le_pow_right (by decide) (by omega)
      exact_mod_cast this
    have hacc : acc < 100000000 := Int.lt_of_lt_of_le ha1 hpow
    by_cases hp : pos < s.length
    · have hp' : pos < (bs s).size := hp
      have hnx : ∀ ty, (Instr.next (.pointer (some ⟨w.heap.size, 0, none⟩)) true ty).run Try.prog (w.iter (bs s) pos) = _ := fun ty => run_next_any w (bs s) pos ty hp'
      obtain ⟨c, hc⟩ : ∃ c, (Utf8.decode (bs s) pos).1 = c := ⟨_, rfl⟩
      obtain ⟨k, hk⟩ : ∃ k, (Utf8.decode (bs s) pos).2 = k := ⟨_, rfl⟩
      rw [hc, hk] at hnx
      have hget : ((bs s)[pos]'hp').toNat = s[pos].toNat := rfl
      by_cases hbad : c < 48 ∨ 57 < c
      · have hno : numGo s 0 = none := by
          rw [← HG.out]
          refine numGo_high hp ?_
          by_cases h128 : s[pos].toNat < 128
          · have := decode_ascii (bs s) pos hp' (by rw [hget]; exact h128)
            rw [this] at hc
            have hc' : s[pos].toNat = c := hc
            omega
          · omega
        have hz0 : z = (0, false) := by rw [← HZ.out, numT, hno]
        subst hz0
        by_cases h48 : (c : Int) < 48
        · go_wp2_with fail
          exact bodyPost_ret (v := .tuple #[.int .i64 0, .bool false]) (by simp [results, Try.results38, go_sem]) rfl ⟨rfl, HB.out _⟩
        · have h57 : 57 < (c : Int) := by omega
          go_wp2_with fail
          exact bodyPost_ret (v := .tuple #[.int .i64 0, .bool false]) (by simp [results, Try.results38, go_sem]) rfl ⟨rfl, HB.out _⟩
      · have h128 : s[pos].toNat < 128 := by
          by_cases h : s[pos].toNat < 128
          · exact h
          · have := (decode_high (bs s) pos hp' (by rw [hget]; omega)).1
            omega
        have hd := decode_ascii (bs s) pos hp' (by rw [hget]; exact h128)
        rw [hd] at hc hk
        have hc' : s[pos].toNat = c := hc
        have hk' : 1 = k := hk
        subst hk'
        have h48 : ¬ (c : Int) < 48 := by omega
        have h57 : ¬ 57 < (c : Int) := by omega
        have hnext := numGo_next (n := acc) hp (by omega) (by omega)
        rw [hc'] at hnext
        have HN := Lib.hid (hnext.symm.trans HG.out)
        have hp10 : (10 : Int) ^ (pos + 1) = 10 ^ pos * 10 := Int.pow_succ 10 pos
        have HP := Lib.hid hp10
        clear hnext hd hc hk HG hp10
        have e1 : IntKind.i32.wrap ((c : Int) - 48) = (c : Int) - 48 := by rw [IntKind.wrap_i32]; omega
        have e2 : IntKind.i64.wrap ((c : Int) - 48) = (c : Int) - 48 := by rw [IntKind.wrap_i64]; omega
        have e3 : IntKind.i64.wrap (10 * acc) = 10 * acc := by rw [IntKind.wrap_i64]; omega
        have e4 : IntKind.i64.wrap (10 * acc + ((c : Int) - 48)) = 10 * acc + ((c : Int) - 48) := by rw [IntKind.wrap_i64]; omega
        go_wp2_with fail
        refine ⟨⟨pos + 1, _, rfl, rfl, HN.out, by omega, ?_, by omega⟩, ?_⟩
        · rw [HP.out]; omega
        · have q1 : (w.iter (bs s) (pos + 1)).iterPos w.heap.size = pos + 1 := by simp [World.iterPos, World.iter_heap]
          have q2 : (w.iter (bs s) pos).iterPos w.heap.size = pos := by simp [World.iterPos, World.iter_heap]
          rw [q1, q2]; omega
    · have hpe : pos = s.length := by omega
      subst hpe
      have hnx : ∀ ty, (Instr.next (.pointer (some ⟨w.heap.size, 0, none⟩)) true ty).run Try.prog (w.iter (bs s) s.length) = _ := fun ty => run_next_end w (bs s) s.length ty hp
      have hgo : numGo s 0 = some acc := by rw [← HG.out, List.drop_of_length_le (Nat.le_refl _)]; rfl
      have hz1 : z = (acc, decL acc == s && (decide (lo ≤ acc) && decide (acc ≤ hi))) := by rw [← HZ.out, numT, hgo]
      clear HG HZ hgo
      have hcell2 := cell_later (HB.out s.length) hcell
      have HW := Lib.hid (HB.out s.length)
      obtain ⟨W, hW⟩ : ∃ W, w.iter (bs s) s.length = W := ⟨_, rfl⟩
      rw [hW] at hnx hcell2 HW ⊢
      clear hW HB ha1 hpow hps hp
      obtain ⟨tf, htf⟩ : ∃ tf, (decide (lo ≤ acc) && decide (acc ≤ hi)) = tf := ⟨_, rfl⟩
      rw [htf] at hz1
      have HT := Lib.hid htf
      clear htf
      go_upto_region 10 with (fail)
      have f1 := Later.cell hcell2
      by_cases hcm : decL acc = s
      · have hcmp : (decL acc == s) = true := by rw [hcm]; simp
        rw [hcmp, Bool.true_and] at hz1
        subst hz1
        refine wp_region_later (by kernel_rfl) (by kernel_rfl) ?_
        repeat (go_big_quiet_step (first
          | (go_at_call 33; exact Calls.later (rpdec_any acc _ ha0 (by omega)) (fun _ _ h => h))
          | (go_at_call 17; exact Calls.later (within_any acc lo hi _ (wf_of (by omega)) hlo hhi) (fun _ _ h => h))))
        refine wpQuiet_nil ?_
        rintro w2 ⟨⟨w3, hb3⟩, rfl⟩
        have HB3 := Lib.hid (HW.out.trans (hb3.mono HW.out.size))
        clear hb3 f1
        go_wp2_with fail
        exact bodyPost_ret (v := .tuple #[.int .i64 acc, .bool tf]) (by rw [← HT.out]; simp [results, Try.results38, go_sem]) rfl ⟨rfl, HB3.out⟩
      · have hcmp : (decL acc == s) = false := beq_eq_false_iff_ne.2 hcm
        rw [hcmp, Bool.false_and] at hz1
        subst hz1
        refine wp_region_later (by kernel_rfl) (by kernel_rfl) ?_
        repeat (go_big_quiet_step (first
          | (go_at_call 33; exact Calls.later (rpdec_any acc _ ha0 (by omega)) (fun _ _ h => h))
          | (go_at_call 17; exact Calls.later (within_any acc lo hi _ (wf_of (by omega)) hlo hhi) (fun _ _ h => h))))
        refine wpQuiet_nil ?_
        rintro w2 ⟨⟨w3, hb3⟩, rfl⟩
        have HB3 := Lib.hid (HW.out.trans (hb3.mono HW.out.size))
        clear hb3 f1
        go_wp2_with fail
        exact bodyPost_ret (v := .tuple #[.int .i64 acc, .bool false]) (by simp [results, Try.results38, go_sem]) rfl ⟨rfl, HB3.out⟩
theorem number_any (l : List (List UInt8)) (lo hi : Int) (v : Value) (w : World) (hv : StrsAt w v l) (hlo : (Lit.int .i64 lo).wf = true) (hhi : (Lit.int .i64 hi).wf = true) : Calls Try.prog 38 #[v, .int .i64 lo, .int .i64 hi] w fun e w' => e = .returned (.tuple #[.int .i64 (numR l lo hi).1, .bool (numR l lo hi).2]) ∧ Below w.heap.size w w' := by
  match l, hv with
  | [], hv => exact number_bad _ lo hi v w hv (.inl (by simp))
  | [_], hv => exact number_bad _ lo hi v w hv (.inl (by simp))
  | a :: b :: c :: t, hv => exact number_bad _ lo hi v w hv (.inl (by simp))
  | [a, b], hv =>
    by_cases h8 : b.length ≤ 8
    · have : numR [a, b] lo hi = numT b lo hi := by simp only [numR, if_pos h8]
      rw [this]
      exact number_good [a, b] lo hi v w hv rfl h8 hlo hhi
    · have : numR [a, b] lo hi = (0, false) := by simp only [numR, if_neg h8]
      rw [this]
      exact number_bad [a, b] lo hi v w hv (.inr ⟨by simp, by simpa using h8⟩)
end Go.Proofs.Ytmaklniljnbokaa
end

section
namespace Go.Proofs.Ytmaklniljnbokaa
open Go.RowKit
set_option linter.unusedVariables false
set_option maxRecDepth 100000

noncomputable def funK {α : Type} (enc : α → List AV) (f : α → AV) (args : List AV) : Option AV := by
  classical
  exact if h : ∃ x, args = enc x then some (f h.choose) else none
theorem funK_eq {α : Type} {enc : α → List AV} {f : α → AV} (hi : ∀ x y, enc x = enc y → x = y) (x : α) : funK enc f (enc x) = some (f x) := by
  have h : ∃ y, enc x = enc y := ⟨x, rfl⟩
  unfold funK
  rw [dif_pos h]
  exact congrArg (fun z => some (f z)) (hi _ _ h.choose_spec).symm
theorem sound_fun {P : Program} {g : FuncId} {α : Type} {enc : α → List AV} {f : α → AV} (hc : ∀ x vs w, Reps (SAll w) w [] [] (enc x) vs → Calls P g vs.toArray w fun e w' => ∃ u, e = .returned u ∧ Below w.heap.size w w' ∧ ∀ S, Rep S w' [] [] (f x) u) : SoundK P g (funK enc f) := by
  intro args v h S w vs hS hr
  unfold funK at h
  split at h
  · rename_i hx
    cases h
    have := hx.choose_spec
    generalize hx.choose = x at *
    subst this
    refine (hc x vs w (Reps.mono (fun b o h => ⟨hS b o h, rfl⟩) hr (.refl _ _))).mono ?_
    rintro e w' ⟨u, rfl, hb, hu⟩
    obtain ⟨k1, k2⟩ := sext_below hS hb
    exact ⟨u, S, rfl, hu S, k2, k1, fun _ _ h => .inl h, hb⟩
  · cases h

def encName (p : UnitS × Int × Int) : List AV := [aU p.1, .int .i64 p.2.1, .int .i64 p.2.2]
def encNumber (p : UnitS × Int × List UInt8) : List AV := [aU p.1, .int .i64 p.2.1, .str p.2.2]
def encNum (p : List (List UInt8) × Int × Int) : List AV := [.sl 1 (p.1.map encS), .int .i64 p.2.1, .int .i64 p.2.2]
theorem encName_inj (x y : UnitS × Int × Int) (h : encName x = encName y) : x = y := by
  obtain ⟨a, b, c⟩ := x
  obtain ⟨a', b', c'⟩ := y
  simp only [encName, List.cons.injEq] at h
  obtain ⟨h1, h2, h3, _⟩ := h
  rw [aU_inj _ _ h1]
  injection h2 with _ h2; injection h3 with _ h3
  rw [h2, h3]
theorem encNumber_inj (x y : UnitS × Int × List UInt8) (h : encNumber x = encNumber y) : x = y := by
  obtain ⟨a, b, c⟩ := x
  obtain ⟨a', b', c'⟩ := y
  simp only [encNumber, List.cons.injEq] at h
  obtain ⟨h1, h2, h3, _⟩ := h
  rw [aU_inj _ _ h1]
  injection h2 with _ h2; injection h3 with h3
  rw [h2, h3]
theorem map_injR {α β : Type} {f : α → β} (hf : ∀ x y, f x = f y → x = y) : ∀ {l l' : List α}, l.map f = l'.map f → l = l'
  | [], [], _ => rfl
  | [], _ :: _, h => by simp at h
  | _ :: _, [], h => by simp at h
  | a :: l, b :: l', h => by
    simp only [List.map_cons, List.cons.injEq] at h
    rw [hf _ _ h.1, map_injR hf h.2]
theorem encNum_inj (x y : List (List UInt8) × Int × Int) (h : encNum x = encNum y) : x = y := by
  obtain ⟨a, b, c⟩ := x
  obtain ⟨a', b', c'⟩ := y
  simp only [encNum, List.cons.injEq] at h
  obtain ⟨h1, h2, h3, _⟩ := h
  injection h1 with _ h1
  rw [map_injR (fun x y e => by injection e with e _; injection e) h1]
  injection h2 with _ h2; injection h3 with _ h3
  rw [h2, h3]

/-- A path as text. -/
def oneT (u : UnitS) (m a : Int) : List UInt8 := if nameU u m a = [] then [63] else nameU u m a
def restT (u : UnitS) (m : Int) : List Int → List UInt8
  | [] => []
  | a :: l => 32 :: oneT u m a ++ restT u m l
def textU (u : UnitS) (m : Int) : List Int → List UInt8
  | [] => []
  | a :: l => oneT u m a ++ restT u m l
def namedL (u : UnitS) (m : Int) (l : List Int) : Bool := l.all fun a => !(nameU u m a == [])
def rightR (u : UnitS) (m : Int) (r : S_api_Result) : Bool := namedL u m r.f_Path && (r.f_Has || decide (r.f_Path = []))
/-- Whether a verdict can be. -/
def rightV (u : UnitS) (m : Int) (v : S_api_Verdict) : Bool := (decide (1 ≤ v.f_Outcome ∧ v.f_Outcome ≤ 3) && decide (1 ≤ v.f_States ∧ v.f_States ≤ 100000) && decide (0 ≤ v.f_Edges ∧ v.f_Edges ≤ 10000000) && decide (v.f_Results.length ≤ 8)) && v.f_Results.all (rightR u m) && namedL u m v.f_Prefix && namedL u m v.f_Cycle
def outT (n : Int) : List UInt8 := if n = 1 then [116, 101, 114, 109, 105, 110, 97, 116, 105, 110, 103] else if n = 2 then [100, 101, 97, 100, 108, 111, 99, 107, 105, 110, 103] else [108, 105, 118, 101, 108, 111, 99, 107, 105, 110, 103]
def pathT (u : UnitS) (m : Int) (w : List UInt8) (l : List Int) : List UInt8 := if l = [] then w else w ++ 32 :: textU u m l
def resT (u : UnitS) (m : Int) (r : S_api_Result) : List UInt8 := [99, 108, 97, 105, 109, 32] ++ (if r.f_Holds then [104, 111, 108, 100, 115] else [102, 97, 105, 108, 115]) ++ (if r.f_Has then 32 :: pathT u m [98, 121] r.f_Path else []) ++ [10]
def headT (u : UnitS) (m : Int) (v : S_api_Verdict) : List UInt8 :=
  [111, 117, 116, 99, 111, 109, 101, 32] ++ outT v.f_Outcome ++ [10] ++ ([115, 116, 97, 116, 101, 115, 32] ++ decL v.f_States ++ [10]) ++ ([101, 100, 103, 101, 115, 32] ++ decL v.f_Edges ++ [10]) ++ (pathT u m [112, 114, 101, 102, 105, 120] v.f_Prefix ++ [10]) ++ (pathT u m [99, 121, 99, 108, 101] v.f_Cycle ++ [10])
/-- A verdict as text. -/
def showT (u : UnitS) (m : Int) (v : S_api_Verdict) : List UInt8 := if rightV u m v = true then headT u m v ++ v.f_Results.flatMap (resT u m) else []
/-- Not too long for a text. -/
def smallV (v : S_api_Verdict) : Bool := decide (v.f_Prefix.length ≤ 4000) && decide (v.f_Cycle.length ≤ 4000) && v.f_Results.all fun r => decide (r.f_Path.length ≤ 4000)
abbrev ShowArg := {p : UnitS × Int × S_api_Verdict // smallV p.2.2 = true}
def encShow (p : ShowArg) : List AV := [aU p.1.1, .int .i64 p.1.2.1, .agg (c_api_Verdict p.1.2.2)]
theorem encI_injR (x y : Int) (h : encI x = encI y) : x = y := by injection h with h _; injection h
theorem c_result_inj (x y : S_api_Result) (h : c_api_Result x = c_api_Result y) : x = y := by
  obtain ⟨a, b, c⟩ := x
  obtain ⟨a', b', c'⟩ := y
  simp only [c_api_Result, List.cons.injEq] at h
  obtain ⟨h1, h2, h3, _⟩ := h
  injection h1 with h1; injection h2 with h2; injection h3 with _ h3
  rw [h1, h2, map_injR encI_injR h3]
theorem c_verdict_inj (x y : S_api_Verdict) (h : c_api_Verdict x = c_api_Verdict y) : x = y := by
  obtain ⟨a, b, c, d, e, f⟩ := x
  obtain ⟨a', b', c', d', e', f'⟩ := y
  simp only [c_api_Verdict, List.cons.injEq] at h
  obtain ⟨h1, h2, h3, h4, h5, h6, _⟩ := h
  injection h1 with _ h1; injection h2 with _ h2; injection h3 with _ h3; injection h4 with _ h4; injection h5 with _ h5; injection h6 with _ h6
  rw [h1, map_injR encI_injR h2, map_injR encI_injR h3, map_injR c_result_inj h4, h5, h6]
theorem encShow_inj (x y : ShowArg) (h : encShow x = encShow y) : x = y := by
  obtain ⟨⟨a, b, c⟩, hx⟩ := x
  obtain ⟨⟨a', b', c'⟩, hy⟩ := y
  simp only [encShow, List.cons.injEq] at h
  obtain ⟨h1, h2, h3, _⟩ := h
  have e1 := aU_inj _ _ h1
  injection h2 with _ h2; injection h3 with h3
  have e3 := c_verdict_inj _ _ h3
  subst e1; subst h2; subst e3
  rfl

noncomputable def ext0 : ExtT := [
  (51, tellK aU rightU),
  (49, tellK aU rightU),
  (12, tellK aU lightU),
  (31, funK encName fun p => .str (nameU p.1 p.2.1 p.2.2)),
  (46, funK encNumber fun p => .int .i64 (numU p.1 p.2.1 p.2.2)),
  (38, funK encNum fun p => .tup [.int .i64 (numR p.1 p.2.1 p.2.2).1, .bool (numR p.1 p.2.1 p.2.2).2]),
  (1000000, fun _ => none)]
/-- Without report.Show; and with it. -/
noncomputable def XT0 : Ext := extOf ext0
noncomputable def extT : ExtT := (10, funK encShow fun p => .str (showT p.1.1 p.1.2.1 p.1.2.2)) :: ext0
noncomputable def XT : Ext := extOf extT
theorem callN_ext {P : Program} {H : Hints} {X : Ext} {n : Nat} {f : FuncId} {g : List AV → Option AV} {args : List AV} {v : AV} (hx : X f = some g) (h : g args = some v) : callN P H X (n + 1) f args [] = some (v, []) := by
  simp only [callN, callS, hx, h]
theorem name_len {a : Agt} (h : a.ok) : a.name.length ≤ 3000 := by
  cases a with
  | thr t =>
    have := decL_len t
    have h := h.2
    simp only [Agt.name, List.length_cons]
    omega
  | fl t l =>
    have h1 := decL_len t
    have h2 := decL_len l
    obtain ⟨⟨g0, g1⟩, g2, g3⟩ := h
    simp only [Agt.name]
    split
    · simp only [List.length_append, List.length_cons]; omega
    · simp only [List.length_cons]; omega
theorem nameU_len (u : UnitS) (m a : Int) : (nameU u m a).length ≤ 3000 := by
  unfold nameU
  split
  · exact name_len (agents_ok u m _ (List.getElem_mem _))
  · simp
theorem numU_range (u : UnitS) (m : Int) (s : List UInt8) : -1 ≤ numU u m s ∧ numU u m s ≤ 28 := by
  unfold numU
  split
  · rename_i i h
    obtain ⟨hi, _⟩ := List.findIdx?_eq_some_iff_getElem.1 h
    have := agents_len u m
    omega
  · omega
theorem numGo_range : ∀ (s : List UInt8) (n z : Int), 0 ≤ n → numGo s n = some z → 0 ≤ z ∧ z < (n + 1) * 10 ^ s.length
  | [], n, z, h, e => by
    obtain rfl : n = z := Option.some.inj e
    simp only [List.length_nil, Int.pow_zero]
    omega
  | c :: l, n, z, h, e => by
    rw [numGo] at e
    split at e
    · rename_i hc
      have := numGo_range l _ z (by omega) e
      refine ⟨this.1, Int.lt_of_lt_of_le this.2 ?_⟩
      rw [List.length_cons, Int.pow_succ, Int.mul_comm (10 ^ l.length) 10, ← Int.mul_assoc]
      exact Int.mul_le_mul_of_nonneg_right (by omega) (Int.pow_nonneg (by decide))
    · cases e
theorem numR_range (l : List (List UInt8)) (lo hi : Int) : 0 ≤ (numR l lo hi).1 ∧ (numR l lo hi).1 < 100000000 := by
  unfold numR
  split
  · rename_i s
    split
    · rename_i h8
      unfold numT
      split
      · rename_i n h
        obtain ⟨h1, h2⟩ := numGo_range s 0 n (by omega) h
        refine ⟨h1, Int.lt_of_lt_of_le h2 ?_⟩
        have : (10 : Nat) ^ s.length ≤ 10 ^ 8 := Nat.pow_le_pow_right (by decide) h8
        have : (10 : Int) ^ s.length ≤ 10 ^ 8 := by exact_mod_cast this
        simpa using this
      · exact ⟨by decide, by decide⟩
    · exact ⟨by decide, by decide⟩
  · exact ⟨by decide, by decide⟩
theorem name_K : SoundK Try.prog 31 (funK encName fun p => .str (nameU p.1 p.2.1 p.2.2)) := by
  refine sound_fun fun ⟨u, m, a⟩ vs w hr => ?_
  cases hr with | cons _ _ _ x _ _ h1 hr =>
  cases hr with | cons _ _ _ y _ _ h2 hr =>
  cases hr with | cons _ _ _ z _ _ h3 hr =>
  cases hr
  obtain ⟨rfl, w2⟩ := h2.int_inv
  obtain ⟨rfl, w3⟩ := h3.int_inv
  refine (machName_any u m a x w h1 w2 w3).mono ?_
  rintro e w' ⟨rfl, hb⟩
  exact ⟨_, rfl, hb, fun S => .str _ _ _ (by have := nameU_len u m a; show (nameU u m a).length ≤ maxLen; unfold maxLen; omega)⟩
theorem number_K : SoundK Try.prog 46 (funK encNumber fun p => .int .i64 (numU p.1 p.2.1 p.2.2)) := by
  refine sound_fun fun ⟨u, m, s⟩ vs w hr => ?_
  cases hr with | cons _ _ _ x _ _ h1 hr =>
  cases hr with | cons _ _ _ y _ _ h2 hr =>
  cases hr with | cons _ _ _ z _ _ h3 hr =>
  cases hr
  obtain ⟨rfl, w2⟩ := h2.int_inv
  obtain ⟨rfl, w3⟩ := h3.str_inv
  refine (machNumber_any u m s x w h1 w2).mono ?_
  rintro e w' ⟨rfl, hb⟩
  exact ⟨_, rfl, hb, fun S => .int _ _ _ _ (wf_of (by have := numU_range u m s; show -9223372036854775808 ≤ numU u m s ∧ numU u m s ≤ _; omega))⟩
theorem num_K : SoundK Try.prog 38 (funK encNum fun p => .tup [.int .i64 (numR p.1 p.2.1 p.2.2).1, .bool (numR p.1 p.2.1 p.2.2).2]) := by
  refine sound_fun fun ⟨l, lo, hi⟩ vs w hr => ?_
  cases hr with | cons _ _ _ x _ _ h1 hr =>
  cases hr with | cons _ _ _ y _ _ h2 hr =>
  cases hr with | cons _ _ _ z _ _ h3 hr =>
  cases hr
  obtain ⟨rfl, w2⟩ := h2.int_inv
  obtain ⟨rfl, w3⟩ := h3.int_inv
  refine (number_any l lo hi x w (strs_of h1) w2 w3).mono ?_
  rintro e w' ⟨rfl, hb⟩
  refine ⟨_, rfl, hb, fun S => .tup _ _ _ [_, _] (.cons _ _ _ _ _ _ (.int _ _ _ _ (wf_of ?_)) (.cons _ _ _ _ _ _ (.bool _ _ _) (.nil _ _)))⟩
  have := numR_range l lo hi
  show -9223372036854775808 ≤ (numR l lo hi).1 ∧ (numR l lo hi).1 ≤ _
  omega
theorem ext0_sound : ∀ p ∈ ext0, SoundK Try.prog p.1 p.2 := by
  unfold ext0
  refine List.forall_mem_cons.2 ⟨sound_tell dec_unitV (fun x v w h => (lowRight_any x v w h).mono fun _ _ h => h), ?_⟩
  refine List.forall_mem_cons.2 ⟨sound_tell dec_unitV (fun x v w h => (right07_any x v w h).mono fun _ _ h => h), ?_⟩
  refine List.forall_mem_cons.2 ⟨sound_tell dec_unitV (fun x v w h => (light07_any x v w h).mono fun _ _ h => h), ?_⟩
  exact List.forall_mem_cons.2 ⟨name_K, List.forall_mem_cons.2 ⟨number_K, List.forall_mem_cons.2 ⟨num_K, List.forall_mem_cons.2 ⟨sound_noneM, fun _ h => by cases h⟩⟩⟩⟩
theorem XT0_sound : SoundExt Try.prog XT0 := sound_extOf ext0_sound
def m_ref07_Light : Nat → UnitS → Option Bool
  | 0, _ => none
  | _+1, u => some (lightU u)
def m_machine_Name : Nat → UnitS → Int → Int → Option (List UInt8)
  | 0, _, _, _ => none
  | _+1, u, m, a => some (nameU u m a)
def m_machine_Number : Nat → UnitS → Int → List UInt8 → Option Int
  | 0, _, _, _ => none
  | _+1, u, m, s => some (numU u m s)
def m_report_number : Nat → List (List UInt8) → Int → Int → Option (Int × Bool)
  | 0, _, _, _ => none
  | _+1, l, lo, hi => some (numR l lo hi)
def m_report_Show : Nat → UnitS → Int → S_api_Verdict → Option (List UInt8)
  | 0, _, _, _ => none
  | _+1, u, m, v => if smallV v = true then some (showT u m v) else none
theorem ok_ref07_Light {n : Nat} ⦃u : UnitS⦄ ⦃r : Bool⦄ : m_ref07_Light n u = some r → callN Try.prog HH XT n 12 [AV.agg [AV.int .i64 (u.mod), AV.sl 1 (List.map encI (u.init)), AV.sl 1 (List.map encI (u.regs)), AV.sl 1 (List.map encThr (u.code))]] [] = some (AV.bool (r), []) := by
  cases n with
  | zero => intro hm; cases hm
  | succ n => intro hm; obtain rfl := Option.some.inj hm; exact callN_ext rfl (tellK_eq (enc := aU) aU_inj u)
theorem ok_machine_Name {n : Nat} ⦃u : UnitS⦄ ⦃m : Int⦄ ⦃a : Int⦄ ⦃r : List UInt8⦄ : m_machine_Name n u m a = some r → callN Try.prog HH XT n 31 [AV.agg [AV.int .i64 (u.mod), AV.sl 1 (List.map encI (u.init)), AV.sl 1 (List.map encI (u.regs)), AV.sl 1 (List.map encThr (u.code))], AV.int .i64 (m), AV.int .i64 (a)] [] = some (AV.str (r), []) := by
  cases n with
  | zero => intro hm; cases hm
  | succ n => intro hm; obtain rfl := Option.some.inj hm; exact callN_ext rfl (funK_eq (enc := encName) encName_inj (u, m, a))
theorem ok_machine_Number {n : Nat} ⦃u : UnitS⦄ ⦃m : Int⦄ ⦃s : List UInt8⦄ ⦃r : Int⦄ : m_machine_Number n u m s = some r → callN Try.prog HH XT n 46 [AV.agg [AV.int .i64 (u.mod), AV.sl 1 (List.map encI (u.init)), AV.sl 1 (List.map encI (u.regs)), AV.sl 1 (List.map encThr (u.code))], AV.int .i64 (m), AV.str (s)] [] = some (AV.int .i64 (r), []) := by
  cases n with
  | zero => intro hm; cases hm
  | succ n => intro hm; obtain rfl := Option.some.inj hm; exact callN_ext rfl (funK_eq (enc := encNumber) encNumber_inj (u, m, s))
theorem ok_report_number {n : Nat} ⦃l : List (List UInt8)⦄ ⦃lo : Int⦄ ⦃hi : Int⦄ ⦃r : Int × Bool⦄ : m_report_number n l lo hi = some r → callN Try.prog HH XT n 38 [AV.sl 1 (List.map encS (l)), AV.int .i64 (lo), AV.int .i64 (hi)] [] = some (AV.tup [AV.int .i64 (r.1), AV.bool (r.2)], []) := by
  cases n with
  | zero => intro hm; cases hm
  | succ n => intro hm; obtain rfl := Option.some.inj hm; exact callN_ext rfl (funK_eq (enc := encNum) encNum_inj (l, lo, hi))
theorem ok0_machine_Name {n : Nat} ⦃u : UnitS⦄ ⦃m : Int⦄ ⦃a : Int⦄ ⦃r : List UInt8⦄ : m_machine_Name n u m a = some r → callN Try.prog HH XT0 n 31 [AV.agg [AV.int .i64 (u.mod), AV.sl 1 (List.map encI (u.init)), AV.sl 1 (List.map encI (u.regs)), AV.sl 1 (List.map encThr (u.code))], AV.int .i64 (m), AV.int .i64 (a)] [] = some (AV.str (r), []) := by
  cases n with
  | zero => intro hm; cases hm
  | succ n => intro hm; obtain rfl := Option.some.inj hm; exact callN_ext rfl (funK_eq (enc := encName) encName_inj (u, m, a))
theorem ok_report_Show {n : Nat} ⦃u : UnitS⦄ ⦃m : Int⦄ ⦃v : S_api_Verdict⦄ ⦃r : List UInt8⦄ : m_report_Show n u m v = some r → callN Try.prog HH XT n 10 [AV.agg [AV.int .i64 (u.mod), AV.sl 1 (List.map encI (u.init)), AV.sl 1 (List.map encI (u.regs)), AV.sl 1 (List.map encThr (u.code))], AV.int .i64 (m), AV.agg [AV.int .i64 (v.f_Outcome), AV.sl 1 (List.map encI (v.f_Prefix)), AV.sl 1 (List.map encI (v.f_Cycle)), AV.sl 3 (List.map c_api_Result (v.f_Results)), AV.int .i64 (v.f_States), AV.int .i64 (v.f_Edges)]] [] = some (AV.str (r), []) := by
  cases n with
  | zero => intro hm; cases hm
  | succ n =>
    intro hm
    rw [m_report_Show] at hm
    split at hm
    · rename_i h
      obtain rfl := Option.some.inj hm
      exact callN_ext rfl (funK_eq (enc := encShow) encShow_inj ⟨(u, m, v), h⟩)
    · cases hm
end Go.Proofs.Ytmaklniljnbokaa
end

section
namespace Go.Proofs.Ytmaklniljnbokaa
set_option linter.unusedVariables false
set_option linter.unusedSimpArgs false
set_option maxRecDepth 100000
set_option maxHeartbeats 4000000

noncomputable abbrev CN := callN Try.prog HH XT
def ref07_Ints_L0 (n:Nat)  (v0_a:(List Int)) (v1_b:(List Int)):Nat→Int→Option (LR Unit Bool)
  | 0,_=>none
  | k3+1,s2=>(bif decide (s2<((v0_a.length:Nat):Int)) then ((idx v0_a s2).bind fun x12=>((idx v1_b s2).bind fun x13=>(bif (x12 != x13) then (some (.ret false)) else (ref07_Ints_L0 n v0_a v1_b k3 (IntKind.i64.wrap (s2+1)))))) else (some (.out ())))
def m_ref07_Ints:Nat→(List Int)→(List Int)→Option Bool
  | 0,_,_=>none
  | n+1,v0_a,v1_b=>(bif (((v0_a.length:Nat):Int) != ((v1_b.length:Nat):Int)) then (some false) else ((ref07_Ints_L0 n v0_a v1_b n 0).bind fun o10=>match o10 with|.out _=>(some true)|.ret v=>some v))

def trail_Text_L0 (n:Nat)  (v0_u:UnitS) (v1_model:Int) (v2_path:(List Int)):Nat→(List UInt8)→Int→Option (LR (List UInt8) (List UInt8))
  | 0,_,_=>none
  | k3+1,s1,s2=>(bif decide (s2<((v2_path.length:Nat):Int)) then ((idx v2_path s2).bind fun x12=>(bif decide (0<s2) then (bif decide (s1.length+(([32]:List UInt8)).length≤140737488355328) then ((m_machine_Name n v0_u v1_model x12).bind fun y15=>(bif (y15==([]:List UInt8)) then (bif decide (((s1++([32]:List UInt8))).length+(([63]:List UInt8)).length≤140737488355328) then (trail_Text_L0 n v0_u v1_model v2_path k3 ((s1++([32]:List UInt8))++([63]:List UInt8)) (IntKind.i64.wrap (s2+1))) else none) else (bif decide (((s1++([32]:List UInt8))).length+y15.length≤140737488355328) then (trail_Text_L0 n v0_u v1_model v2_path k3 ((s1++([32]:List UInt8))++y15) (IntKind.i64.wrap (s2+1))) else none))) else none) else ((m_machine_Name n v0_u v1_model x12).bind fun y20=>(bif (y20==([]:List UInt8)) then (bif decide (s1.length+(([63]:List UInt8)).length≤140737488355328) then (trail_Text_L0 n v0_u v1_model v2_path k3 (s1++([63]:List UInt8)) (IntKind.i64.wrap (s2+1))) else none) else (bif decide (s1.length+y20.length≤140737488355328) then (trail_Text_L0 n v0_u v1_model v2_path k3 (s1++y20) (IntKind.i64.wrap (s2+1))) else none))))) else (some (.out s1)))
def m_trail_Text:Nat→UnitS→Int→(List Int)→Option (List UInt8)
  | 0,_,_,_=>none
  | n+1,v0_u,v1_model,v2_path=>((trail_Text_L0 n v0_u v1_model v2_path n ([]:List UInt8) 0).bind fun o10=>match o10 with|.out x26=>(some x26)|.ret v=>some v)

def ref21_Same_L0 (n:Nat)  (v0_a:(List S_api_Result)) (v1_b:(List S_api_Result)):Nat→Int→Option (LR Unit Bool)
  | 0,_=>none
  | k3+1,s2=>(bif decide (s2<((v0_a.length:Nat):Int)) then ((idx v0_a s2).bind fun x12=>((idx v1_b s2).bind fun x13=>(bif (x12.f_Holds==x13.f_Holds) then ((idx v0_a s2).bind fun x15=>((idx v1_b s2).bind fun x16=>(bif (x15.f_Has==x16.f_Has) then ((idx v0_a s2).bind fun x18=>((idx v1_b s2).bind fun x19=>((m_ref07_Ints n x18.f_Path x19.f_Path).bind fun y20=>(bif y20 then (ref21_Same_L0 n v0_a v1_b k3 (IntKind.i64.wrap (s2+1))) else (some (.ret false)))))) else (some (.ret false))))) else (some (.ret false))))) else (some (.out ())))
def m_ref21_Same:Nat→(List S_api_Result)→(List S_api_Result)→Option Bool
  | 0,_,_=>none
  | n+1,v0_a,v1_b=>(bif (((v0_a.length:Nat):Int) != ((v1_b.length:Nat):Int)) then (some false) else ((ref21_Same_L0 n v0_a v1_b n 0).bind fun o10=>match o10 with|.out _=>(some true)|.ret v=>some v))

def m_ref23_Same:Nat→S_api_Verdict→S_api_Verdict→Option Bool
  | 0,_,_=>none
  | n+1,v0_a,v1_b=>(bif (v0_a.f_Outcome==v1_b.f_Outcome) then ((m_ref07_Ints n v0_a.f_Prefix v1_b.f_Prefix).bind fun y2=>(bif y2 then ((m_ref07_Ints n v0_a.f_Cycle v1_b.f_Cycle).bind fun y5=>(bif y5 then ((m_ref21_Same n v0_a.f_Results v1_b.f_Results).bind fun y8=>(bif y8 then (bif (v0_a.f_States==v1_b.f_States) then (some (v0_a.f_Edges==v1_b.f_Edges)) else (some false)) else (some false))) else (some false))) else (some false))) else (some false))

def report_cut_L0 (n:Nat)  (v0_s:(List UInt8)):Nat→Int→Int→(List (List UInt8))→Option (LR (List (List UInt8)) ((List (List UInt8))×Bool))
  | 0,_,_,_=>none
  | k4+1,s1,s2,s3=>(bif decide (s2≤((v0_s.length:Nat):Int)) then (bif (s2==((v0_s.length:Nat):Int)) then (bif (s2==s1) then (some (.ret (([]:List (List UInt8)),false))) else (bif (decide (0≤s2)&&decide (s2≤((v0_s.length:Nat):Int))&&decide (0≤s1)&&decide (s1≤s2)) then (bif decide ((s3.length+1) * 17≤140737488355328) then (report_cut_L0 n v0_s k4 (IntKind.i64.wrap (s2+1)) (IntKind.i64.wrap (s2+1)) (s3++([(List.drop (s1.toNat) (List.take (s2.toNat) v0_s))]:List (List UInt8)))) else none) else none)) else ((idx v0_s s2).bind fun x18=>(bif ((x18.toNat:Int)==32) then (bif (s2==s1) then (some (.ret (([]:List (List UInt8)),false))) else (bif (decide (0≤s2)&&decide (s2≤((v0_s.length:Nat):Int))&&decide (0≤s1)&&decide (s1≤s2)) then (bif decide ((s3.length+1) * 17≤140737488355328) then (report_cut_L0 n v0_s k4 (IntKind.i64.wrap (s2+1)) (IntKind.i64.wrap (s2+1)) (s3++([(List.drop (s1.toNat) (List.take (s2.toNat) v0_s))]:List (List UInt8)))) else none) else none)) else (report_cut_L0 n v0_s k4 s1 (IntKind.i64.wrap (s2+1)) s3)))) else (some (.out s3)))
def m_report_cut:Nat→(List UInt8)→Option ((List (List UInt8))×Bool)
  | 0,_=>none
  | n+1,v0_s=>((report_cut_L0 n v0_s n 0 0 ([]:List (List UInt8))).bind fun o11=>match o11 with|.out x25=>(some (x25,true))|.ret v=>some v)

def m_report_outcomes:Nat→Option (List (List UInt8))
  | 0=>none
  | n+1=>(some ([([]:List UInt8),([116,101,114,109,105,110,97,116,105,110,103]:List UInt8),([100,101,97,100,108,111,99,107,105,110,103]:List UInt8),([108,105,118,101,108,111,99,107,105,110,103]:List UInt8)]:List (List UInt8)))

def report_outcome_L0 (n:Nat)  (v0_words:(List (List UInt8))) (y1:(List (List UInt8))):Nat→Int→Option (LR Unit (Int×Bool))
  | 0,_=>none
  | k4+1,s3=>(bif decide (s3<((y1.length:Nat):Int)) then ((idx y1 s3).bind fun x13=>(bif decide (0<s3) then (bif (((v0_words.length:Nat):Int)==2) then ((idx v0_words 1).bind fun x16=>(bif (x16==x13) then (some (.ret (s3,true))) else (report_outcome_L0 n v0_words y1 k4 (IntKind.i64.wrap (s3+1))))) else (report_outcome_L0 n v0_words y1 k4 (IntKind.i64.wrap (s3+1)))) else (report_outcome_L0 n v0_words y1 k4 (IntKind.i64.wrap (s3+1))))) else (some (.out ())))
def m_report_outcome:Nat→(List (List UInt8))→Option (Int×Bool)
  | 0,_=>none
  | n+1,v0_words=>((m_report_outcomes n ).bind fun y1=>((report_outcome_L0 n v0_words y1 n 0).bind fun o11=>match o11 with|.out _=>(some (0,false))|.ret v=>some v))

def report_reader_path_L0 (n:Nat)  (v1_names:(List (List UInt8))) (r_u_Mod:Int) (r_u_Init:(List Int)) (r_u_Regs:(List Int)) (r_u_Code:(List (List InstrS))) (r_model:Int):Nat→Int→(List Int)→Option (LR (List Int) ((List Int)×Bool))
  | 0,_,_=>none
  | k3+1,s1,s2=>(bif decide (s1<((v1_names.length:Nat):Int)) then ((idx v1_names s1).bind fun x12=>((m_machine_Number n (⟨r_u_Mod,r_u_Init,r_u_Regs,r_u_Code⟩:UnitS) r_model x12).bind fun y13=>(bif decide (y13<0) then (some (.ret (([]:List Int),false))) else (bif decide ((s2.length+1) * 9≤140737488355328) then (report_reader_path_L0 n v1_names r_u_Mod r_u_Init r_u_Regs r_u_Code r_model k3 (IntKind.i64.wrap (s1+1)) (s2++([y13]:List Int))) else none)))) else (some (.out s2)))
def m_report_reader_path:Nat→(List (List UInt8))→Int→(List Int)→(List Int)→(List (List InstrS))→Int→Int→(List Int)→(List Int)→(List S_api_Result)→Int→Int→Option ((List Int)×Bool)
  | 0,_,_,_,_,_,_,_,_,_,_,_,_=>none
  | n+1,v1_names,r_u_Mod,r_u_Init,r_u_Regs,r_u_Code,r_model,r_v_Outcome,r_v_Prefix,r_v_Cycle,r_v_Results,r_v_States,r_v_Edges=>((report_reader_path_L0 n v1_names r_u_Mod r_u_Init r_u_Regs r_u_Code r_model n 0 ([]:List Int)).bind fun o10=>match o10 with|.out x19=>(some (x19,true))|.ret v=>some v)

def m_report_reader_result:Nat→(List (List UInt8))→Int→(List Int)→(List Int)→(List (List InstrS))→Int→Int→(List Int)→(List Int)→(List S_api_Result)→Int→Int→Option (Bool×(List S_api_Result))
  | 0,_,_,_,_,_,_,_,_,_,_,_,_=>none
  | n+1,v1_words,r_u_Mod,r_u_Init,r_u_Regs,r_u_Code,r_model,r_v_Outcome,r_v_Prefix,r_v_Cycle,r_v_Results,r_v_States,r_v_Edges=>(bif decide (((v1_words.length:Nat):Int)<2) then (some (false,r_v_Results)) else ((idx v1_words 1).bind fun x2=>(bif (x2==([104,111,108,100,115]:List UInt8)) then (bif decide (8≤((r_v_Results.length:Nat):Int)) then (some (false,r_v_Results)) else ((idx v1_words 1).bind fun x5=>(bif decide (2<((v1_words.length:Nat):Int)) then (bif (decide (0≤3)&&decide (3≤((v1_words.length:Nat):Int))) then ((m_report_reader_path n (List.drop ((3:Int).toNat) (List.take (v1_words.length) v1_words)) r_u_Mod r_u_Init r_u_Regs r_u_Code r_model r_v_Outcome r_v_Prefix r_v_Cycle r_v_Results r_v_States r_v_Edges).bind fun y9=>(bif y9.2 then ((idx v1_words 2).bind fun x12=>(bif decide ((r_v_Results.length+1) * 33≤140737488355328) then (some ((x12==([98,121]:List UInt8)),(r_v_Results++([(⟨(x5==([104,111,108,100,115]:List UInt8)),true,y9.1⟩:S_api_Result)]:List S_api_Result)))) else none)) else (bif decide ((r_v_Results.length+1) * 33≤140737488355328) then (some (false,(r_v_Results++([(⟨(x5==([104,111,108,100,115]:List UInt8)),true,y9.1⟩:S_api_Result)]:List S_api_Result)))) else none))) else none) else (bif decide ((r_v_Results.length+1) * 33≤140737488355328) then (some (true,(r_v_Results++([(⟨(x5==([104,111,108,100,115]:List UInt8)),false,([]:List Int)⟩:S_api_Result)]:List S_api_Result)))) else none)))) else ((idx v1_words 1).bind fun x19=>(bif (x19==([102,97,105,108,115]:List UInt8)) then (bif decide (8≤((r_v_Results.length:Nat):Int)) then (some (false,r_v_Results)) else ((idx v1_words 1).bind fun x22=>(bif decide (2<((v1_words.length:Nat):Int)) then (bif (decide (0≤3)&&decide (3≤((v1_words.length:Nat):Int))) then ((m_report_reader_path n (List.drop ((3:Int).toNat) (List.take (v1_words.length) v1_words)) r_u_Mod r_u_Init r_u_Regs r_u_Code r_model r_v_Outcome r_v_Prefix r_v_Cycle r_v_Results r_v_States r_v_Edges).bind fun y26=>(bif y26.2 then ((idx v1_words 2).bind fun x29=>(bif decide ((r_v_Results.length+1) * 33≤140737488355328) then (some ((x29==([98,121]:List UInt8)),(r_v_Results++([(⟨(x22==([104,111,108,100,115]:List UInt8)),true,y26.1⟩:S_api_Result)]:List S_api_Result)))) else none)) else (bif decide ((r_v_Results.length+1) * 33≤140737488355328) then (some (false,(r_v_Results++([(⟨(x22==([104,111,108,100,115]:List UInt8)),true,y26.1⟩:S_api_Result)]:List S_api_Result)))) else none))) else none) else (bif decide ((r_v_Results.length+1) * 33≤140737488355328) then (some (true,(r_v_Results++([(⟨(x22==([104,111,108,100,115]:List UInt8)),false,([]:List Int)⟩:S_api_Result)]:List S_api_Result)))) else none)))) else (some (false,r_v_Results)))))))

def m_report_reader_line:Nat→(List UInt8)→Int→Int→(List Int)→(List Int)→(List (List InstrS))→Int→Int→(List Int)→(List Int)→(List S_api_Result)→Int→Int→Option (Bool×Int×(List Int)×(List Int)×(List S_api_Result)×Int×Int)
  | 0,_,_,_,_,_,_,_,_,_,_,_,_,_=>none
  | n+1,v1_s,v2_n,r_u_Mod,r_u_Init,r_u_Regs,r_u_Code,r_model,r_v_Outcome,r_v_Prefix,r_v_Cycle,r_v_Results,r_v_States,r_v_Edges=>((m_report_cut n v1_s).bind fun y1=>(bif y1.2 then ((idx y1.1 0).bind fun x4=>((idx ([([111,117,116,99,111,109,101]:List UInt8),([115,116,97,116,101,115]:List UInt8),([101,100,103,101,115]:List UInt8),([112,114,101,102,105,120]:List UInt8),([99,121,99,108,101]:List UInt8),([99,108,97,105,109]:List UInt8)]:List (List UInt8)) (if 5<v2_n then 5 else v2_n)).bind fun x5=>(bif (x4==x5) then ((idx y1.1 0).bind fun x7=>(bif (x7==([111,117,116,99,111,109,101]:List UInt8)) then ((m_report_outcome n y1.1).bind fun y9=>(some (y9.2,y9.1,r_v_Prefix,r_v_Cycle,r_v_Results,r_v_States,r_v_Edges))) else (bif (x7==([115,116,97,116,101,115]:List UInt8)) then ((m_report_number n y1.1 1 100000).bind fun y12=>(some (y12.2,r_v_Outcome,r_v_Prefix,r_v_Cycle,r_v_Results,y12.1,r_v_Edges))) else (bif (x7==([101,100,103,101,115]:List UInt8)) then ((m_report_number n y1.1 0 10000000).bind fun y15=>(some (y15.2,r_v_Outcome,r_v_Prefix,r_v_Cycle,r_v_Results,r_v_States,y15.1))) else (bif (x7==([112,114,101,102,105,120]:List UInt8)) then (bif (decide (0≤1)&&decide (1≤((y1.1.length:Nat):Int))) then ((m_report_reader_path n (List.drop ((1:Int).toNat) (List.take (y1.1.length) y1.1)) r_u_Mod r_u_Init r_u_Regs r_u_Code r_model r_v_Outcome r_v_Prefix r_v_Cycle r_v_Results r_v_States r_v_Edges).bind fun y20=>(some (y20.2,r_v_Outcome,y20.1,r_v_Cycle,r_v_Results,r_v_States,r_v_Edges))) else none) else (bif (x7==([99,121,99,108,101]:List UInt8)) then (bif (decide (0≤1)&&decide (1≤((y1.1.length:Nat):Int))) then ((m_report_reader_path n (List.drop ((1:Int).toNat) (List.take (y1.1.length) y1.1)) r_u_Mod r_u_Init r_u_Regs r_u_Code r_model r_v_Outcome r_v_Prefix r_v_Cycle r_v_Results r_v_States r_v_Edges).bind fun y25=>(some (y25.2,r_v_Outcome,r_v_Prefix,y25.1,r_v_Results,r_v_States,r_v_Edges))) else none) else (bif (x7==([99,108,97,105,109]:List UInt8)) then ((m_report_reader_result n y1.1 r_u_Mod r_u_Init r_u_Regs r_u_Code r_model r_v_Outcome r_v_Prefix r_v_Cycle r_v_Results r_v_States r_v_Edges).bind fun y28=>(some (y28.1,r_v_Outcome,r_v_Prefix,r_v_Cycle,y28.2,r_v_States,r_v_Edges))) else (some (true,r_v_Outcome,r_v_Prefix,r_v_Cycle,r_v_Results,r_v_States,r_v_Edges))))))))) else (some (false,r_v_Outcome,r_v_Prefix,r_v_Cycle,r_v_Results,r_v_States,r_v_Edges))))) else (some (false,r_v_Outcome,r_v_Prefix,r_v_Cycle,r_v_Results,r_v_States,r_v_Edges))))

def report_Parse_L0 (n:Nat)  (v0_u:UnitS) (v1_model:Int) (v2_s:(List UInt8)):Nat→Int→Int→Int→Int→(List Int)→(List Int)→Int→Int→(List S_api_Result)→Option (LR (Int×Int×Int×(List Int)×(List Int)×Int×Int×(List S_api_Result)) (S_api_Verdict×Int×Int))
  | 0,_,_,_,_,_,_,_,_,_=>none
  | k10+1,s1,s2,s3,s4,s5,s6,s7,s8,s9=>(bif decide (s3<((v2_s.length:Nat):Int)) then ((idx v2_s s3).bind fun x19=>(bif ((x19.toNat:Int) != 10) then (report_Parse_L0 n v0_u v1_model v2_s k10 s1 s2 (IntKind.i64.wrap (s3+1)) s4 s5 s6 s7 s8 s9) else (bif (decide (0≤s3)&&decide (s3≤((v2_s.length:Nat):Int))&&decide (0≤s2)&&decide (s2≤s3)) then ((m_report_reader_line n (List.drop (s2.toNat) (List.take (s3.toNat) v2_s)) s1 v0_u.mod v0_u.init v0_u.regs v0_u.code v1_model s4 s5 s6 s9 s7 s8).bind fun y22=>(bif y22.1 then (report_Parse_L0 n v0_u v1_model v2_s k10 (IntKind.i64.wrap (s1+1)) (IntKind.i64.wrap (s3+1)) (IntKind.i64.wrap (s3+1)) y22.2.1 y22.2.2.1 y22.2.2.2.1 y22.2.2.2.2.2.1 y22.2.2.2.2.2.2 y22.2.2.2.2.1) else (some (.ret ((⟨0,([]:List Int),([]:List Int),([]:List S_api_Result),0,0⟩:S_api_Verdict),8,IntKind.i64.wrap (s1+1)))))) else none))) else (some (.out (s1,s2,s4,s5,s6,s7,s8,s9))))
def m_report_Parse:Nat→UnitS→Int→(List UInt8)→Option (S_api_Verdict×Int×Int)
  | 0,_,_,_=>none
  | n+1,v0_u,v1_model,v2_s=>((report_Parse_L0 n v0_u v1_model v2_s n 0 0 0 0 ([]:List Int) ([]:List Int) 0 0 ([]:List S_api_Result)).bind fun o17=>match o17 with|.out (x26,x27,x28,x29,x30,x31,x32,x33)=>(bif decide (x27<((v2_s.length:Nat):Int)) then (some ((⟨0,([]:List Int),([]:List Int),([]:List S_api_Result),0,0⟩:S_api_Verdict),8,IntKind.i64.wrap (x26+1))) else (bif decide (x26<5) then (some ((⟨0,([]:List Int),([]:List Int),([]:List S_api_Result),0,0⟩:S_api_Verdict),8,IntKind.i64.wrap (x26+1))) else (some ((⟨x28,x29,x30,x33,x31,x32⟩:S_api_Verdict),0,0))))|.ret v=>some v)

def report_named_L1 (n:Nat)  (v0_u:UnitS) (v1_model:Int) (x11:(List Int)):Nat→Int→Option (LR Unit Bool)
  | 0,_=>none
  | k13+1,s12=>(bif decide (s12<((x11.length:Nat):Int)) then ((idx x11 s12).bind fun x22=>((m_machine_Name n v0_u v1_model x22).bind fun y23=>(bif (y23==([]:List UInt8)) then (some (.ret false)) else (report_named_L1 n v0_u v1_model x11 k13 (IntKind.i64.wrap (s12+1)))))) else (some (.out ())))
def report_named_L0 (n:Nat)  (v0_u:UnitS) (v1_model:Int) (v2_paths:(List (List Int))):Nat→Int→Option (LR Unit Bool)
  | 0,_=>none
  | k2+1,s1=>(bif decide (s1<((v2_paths.length:Nat):Int)) then ((idx v2_paths s1).bind fun x11=>((report_named_L1 n v0_u v1_model x11 n 0).bind fun o20=>match o20 with|.out _=>(report_named_L0 n v0_u v1_model v2_paths k2 (IntKind.i64.wrap (s1+1)))|.ret v=>some (.ret v))) else (some (.out ())))
def m_report_named:Nat→UnitS→Int→(List (List Int))→Option Bool
  | 0,_,_,_=>none
  | n+1,v0_u,v1_model,v2_paths=>((report_named_L0 n v0_u v1_model v2_paths n 0).bind fun o9=>match o9 with|.out _=>(some true)|.ret v=>some v)

def m_report_within:Nat→Int→Int→Int→Option Bool
  | 0,_,_,_=>none
  | n+1,v0_n,v1_low,v2_high=>(bif decide (v1_low≤v0_n) then (some (decide (v0_n≤v2_high))) else (some false))

def report_Right_L0 (n:Nat)  (v0_u:UnitS) (v1_model:Int) (v2_v:S_api_Verdict):Nat→Int→Option (LR Unit Bool)
  | 0,_=>none
  | k12+1,s11=>(bif decide (s11<((v2_v.f_Results.length:Nat):Int)) then ((idx v2_v.f_Results s11).bind fun x21=>((m_report_named n v0_u v1_model ([x21.f_Path]:List (List Int))).bind fun y22=>(bif y22 then (bif x21.f_Has then (report_Right_L0 n v0_u v1_model v2_v k12 (IntKind.i64.wrap (s11+1))) else (bif decide (0<((x21.f_Path.length:Nat):Int)) then (some (.ret false)) else (report_Right_L0 n v0_u v1_model v2_v k12 (IntKind.i64.wrap (s11+1))))) else (some (.ret false))))) else (some (.out ())))
def m_report_Right:Nat→UnitS→Int→S_api_Verdict→Option Bool
  | 0,_,_,_=>none
  | n+1,v0_u,v1_model,v2_v=>((m_report_within n v2_v.f_Outcome 1 3).bind fun y1=>(bif y1 then ((m_report_within n v2_v.f_States 1 100000).bind fun y4=>(bif y4 then ((m_report_within n v2_v.f_Edges 0 10000000).bind fun y7=>(bif y7 then (bif decide (8<((v2_v.f_Results.length:Nat):Int)) then (some false) else ((report_Right_L0 n v0_u v1_model v2_v n 0).bind fun o19=>match o19 with|.out _=>((m_report_named n v0_u v1_model ([v2_v.f_Prefix,v2_v.f_Cycle]:List (List Int))).bind fun y28=>(some y28))|.ret v=>some v)) else (some false))) else (some false))) else (some false)))

def m_law24_unit:Nat→Option UnitS
  | 0=>none
  | n+1=>(some (⟨2,([0]:List Int),([0]:List Int),([([(⟨4,0,0,([(⟨1,1,0⟩:OpS)]:List OpS),([]:List OpS),false,0⟩:InstrS),(⟨22,0,0,([]:List OpS),([]:List OpS),false,0⟩:InstrS)]:List InstrS)]:List (List InstrS))⟩:UnitS))

def m_law24_known:Nat→Option Bool
  | 0=>none
  | n+1=>((m_law24_unit n ).bind fun y1=>((m_report_Show n y1 2 (⟨2,([0,1]:List Int),([]:List Int),([(⟨true,false,([]:List Int)⟩:S_api_Result),(⟨false,true,([]:List Int)⟩:S_api_Result),(⟨true,true,([0]:List Int)⟩:S_api_Result)]:List S_api_Result),3,20⟩:S_api_Verdict)).bind fun y3=>((m_law24_unit n ).bind fun y5=>((m_report_Parse n y5 2 y3).bind fun y7=>((m_law24_unit n ).bind fun y9=>((m_report_Parse n y9 2 ([111,117,116,99,111,109,101,32,100,101,97,100,108,111,99,107,105,110,103,10,115,116,97,116,101,115,32,48,51,10]:List UInt8)).bind fun y11=>((m_law24_unit n ).bind fun y13=>((m_report_Parse n y13 2 ([]:List UInt8)).bind fun y15=>(bif (y3==(List.append ([111,117,116,99,111,109,101,32,100,101,97,100,108,111,99,107,105,110,103,10,115,116,97,116,101,115,32,51,10,101,100,103,101,115,32,50,48,10,112,114,101,102,105,120,32,116,48,32,102,48,10]:List UInt8) ([99,121,99,108,101,10,99,108,97,105,109,32,104,111,108,100,115,10,99,108,97,105,109,32,102,97,105,108,115,32,98,121,10,99,108,97,105,109,32,104,111,108,100,115,32,98,121,32,116,48,10]:List UInt8))) then ((m_ref23_Same n (⟨2,([0,1]:List Int),([]:List Int),([(⟨true,false,([]:List Int)⟩:S_api_Result),(⟨false,true,([]:List Int)⟩:S_api_Result),(⟨true,true,([0]:List Int)⟩:S_api_Result)]:List S_api_Result),3,20⟩:S_api_Verdict) y7.1).bind fun y18=>(bif y18 then (bif (y7.2.1==0) then (bif (y7.2.2==0) then (bif (y11.2.1==8) then (bif (y11.2.2==2) then (bif (y15.2.1==8) then (bif (y15.2.2==1) then ((m_law24_unit n ).bind fun y27=>((m_report_Right n y27 2 (⟨2,([0,1]:List Int),([]:List Int),([(⟨true,false,([]:List Int)⟩:S_api_Result),(⟨false,true,([]:List Int)⟩:S_api_Result),(⟨true,true,([0]:List Int)⟩:S_api_Result)]:List S_api_Result),3,20⟩:S_api_Verdict)).bind fun y29=>(bif y29 then ((m_law24_unit n ).bind fun y32=>((m_report_Right n y32 1 (⟨2,([0,1]:List Int),([]:List Int),([(⟨true,false,([]:List Int)⟩:S_api_Result),(⟨false,true,([]:List Int)⟩:S_api_Result),(⟨true,true,([0]:List Int)⟩:S_api_Result)]:List S_api_Result),3,20⟩:S_api_Verdict)).bind fun y34=>(some (!y34)))) else (some false)))) else (some false)) else (some false)) else (some false)) else (some false)) else (some false)) else (some false)) else (some false))) else (some false))))))))))

def law24_light_L0 (n:Nat)  (v1_v:S_api_Verdict):Nat→Int→Option (LR Unit Bool)
  | 0,_=>none
  | k8+1,s7=>(bif decide (s7<((v1_v.f_Results.length:Nat):Int)) then ((idx v1_v.f_Results s7).bind fun x17=>(bif decide (60<((x17.f_Path.length:Nat):Int)) then (some (.ret false)) else (law24_light_L0 n v1_v k8 (IntKind.i64.wrap (s7+1))))) else (some (.out ())))
def m_law24_light:Nat→UnitS→S_api_Verdict→Option Bool
  | 0,_,_=>none
  | n+1,v0_u,v1_v=>((m_ref07_Light n v0_u).bind fun y1=>(bif y1 then (bif decide (60<((v1_v.f_Prefix.length:Nat):Int)) then (some false) else (bif decide (60<((v1_v.f_Cycle.length:Nat):Int)) then (some false) else (bif decide (20<((v1_v.f_Results.length:Nat):Int)) then (some false) else ((law24_light_L0 n v1_v n 0).bind fun o15=>match o15 with|.out _=>(some true)|.ret v=>some v)))) else (some false)))

def law24_ReportBack_L0 (n:Nat)  (v0_u:UnitS) (v1_v:S_api_Verdict) (v2_s:(List UInt8)):Nat→Int→Option (LR Unit Bool)
  | 0,_=>none
  | k8+1,s7=>(bif decide (s7≤3) then ((m_report_Parse n v0_u s7 v2_s).bind fun y17=>(bif (y17.2.1==0) then ((m_report_Right n v0_u s7 y17.1).bind fun y20=>(bif y20 then ((m_report_Show n v0_u s7 y17.1).bind fun y23=>(bif (y23==v2_s) then (bif (y17.2.2 != 0) then (some (.ret false)) else (bif (y17.2.1 != 0) then (bif decide (y17.2.2<1) then (some (.ret false)) else ((m_report_Right n v0_u s7 v1_v).bind fun y29=>(bif y29 then ((m_report_Show n v0_u s7 v1_v).bind fun y32=>((m_report_Parse n v0_u s7 y32).bind fun y34=>(bif (y34.2.1 != 0) then (some (.ret false)) else ((m_ref23_Same n v1_v y34.1).bind fun y37=>(bif y37 then (law24_ReportBack_L0 n v0_u v1_v v2_s k8 (IntKind.i64.wrap (s7+1))) else (some (.ret false))))))) else (law24_ReportBack_L0 n v0_u v1_v v2_s k8 (IntKind.i64.wrap (s7+1)))))) else ((m_report_Right n v0_u s7 v1_v).bind fun y40=>(bif y40 then ((m_report_Show n v0_u s7 v1_v).bind fun y43=>((m_report_Parse n v0_u s7 y43).bind fun y45=>(bif (y45.2.1 != 0) then (some (.ret false)) else ((m_ref23_Same n v1_v y45.1).bind fun y48=>(bif y48 then (law24_ReportBack_L0 n v0_u v1_v v2_s k8 (IntKind.i64.wrap (s7+1))) else (some (.ret false))))))) else (law24_ReportBack_L0 n v0_u v1_v v2_s k8 (IntKind.i64.wrap (s7+1))))))) else (some (.ret false)))) else (some (.ret false)))) else (bif (y17.2.1 != 0) then (bif decide (y17.2.2<1) then (some (.ret false)) else ((m_report_Right n v0_u s7 v1_v).bind fun y53=>(bif y53 then ((m_report_Show n v0_u s7 v1_v).bind fun y56=>((m_report_Parse n v0_u s7 y56).bind fun y58=>(bif (y58.2.1 != 0) then (some (.ret false)) else ((m_ref23_Same n v1_v y58.1).bind fun y61=>(bif y61 then (law24_ReportBack_L0 n v0_u v1_v v2_s k8 (IntKind.i64.wrap (s7+1))) else (some (.ret false))))))) else (law24_ReportBack_L0 n v0_u v1_v v2_s k8 (IntKind.i64.wrap (s7+1)))))) else ((m_report_Right n v0_u s7 v1_v).bind fun y64=>(bif y64 then ((m_report_Show n v0_u s7 v1_v).bind fun y67=>((m_report_Parse n v0_u s7 y67).bind fun y69=>(bif (y69.2.1 != 0) then (some (.ret false)) else ((m_ref23_Same n v1_v y69.1).bind fun y72=>(bif y72 then (law24_ReportBack_L0 n v0_u v1_v v2_s k8 (IntKind.i64.wrap (s7+1))) else (some (.ret false))))))) else (law24_ReportBack_L0 n v0_u v1_v v2_s k8 (IntKind.i64.wrap (s7+1)))))))) else (some (.out ())))
def m_law24_ReportBack:Nat→UnitS→S_api_Verdict→(List UInt8)→Option Bool
  | 0,_,_,_=>none
  | n+1,v0_u,v1_v,v2_s=>((m_law24_light n v0_u v1_v).bind fun y1=>(bif y1 then (bif decide (2000<((v2_s.length:Nat):Int)) then ((m_law24_known n ).bind fun y5=>(some y5)) else ((law24_ReportBack_L0 n v0_u v1_v v2_s n 1).bind fun o15=>match o15 with|.out _=>((m_law24_known n ).bind fun y76=>(some y76))|.ret v=>some v)) else ((m_law24_known n ).bind fun y79=>(some y79))))

end Go.Proofs.Ytmaklniljnbokaa
end

section
namespace Go.Proofs.Ytmaklniljnbokaa
set_option linter.unusedVariables false
set_option linter.unusedSimpArgs false
set_option maxRecDepth 100000
set_option maxHeartbeats 4000000
noncomputable abbrev CN0 := callN Try.prog HH XT0
theorem ok0_report_outcomes {n:Nat} ⦃r:(List (List UInt8))⦄:m_report_outcomes n=some r→CN0 n 21 [] []=some (AV.sl 1 (List.map encS r),[]):=by
 intro h;rcases n with _|n;cases h
 rw [m_report_outcomes] at h
 refine callN_eq' Try.func21 (by rfl) rfl rfl (Nat.le_of_ble_eq_true rfl) ?_
 intro call hc;conv=>lhs;whnf
 revert h
 exact rz

theorem ok0_report_named {n:Nat} ⦃v0_u:UnitS⦄ ⦃v1_model:Int⦄ ⦃v2_paths:(List (List Int))⦄ ⦃r:Bool⦄:m_report_named n v0_u v1_model v2_paths=some r→CN0 n 18 [AV.agg [iA (v0_u.mod),AV.sl 1 (List.map encI (v0_u.init)),AV.sl 1 (List.map encI (v0_u.regs)),AV.sl 1 (List.map encThr (v0_u.code))],iA v1_model,AV.sl 1 (List.map encRow v2_paths)] []=some (bA r,[]):=by
 intro h;rcases n with _|n;cases h
 rw [m_report_named] at h
 refine callN_eq' Try.func18 (by rfl) rfl rfl (Nat.le_of_ble_eq_true rfl) ?_
 intro call hc;conv=>lhs;whnf
 revert h
 intro h;refine bind_some2 h ?_;clear h;intro o9 ho9 h
 refine lq (σ:=Int) (τ:=Unit) (ν:=Bool) 0 (fun s1 a3=>stOf 30 [(1,iA v1_model),(3,AV.ptr 0 0),(11,AV.sl 1 (List.map encRow v2_paths)),(12,iA (((v2_paths.length:Nat):Int))),(13,iA s1)]) (fun s1 a3=>[Ob.var 25 [iA (v0_u.mod),AV.sl 1 (List.map encI (v0_u.init)),AV.sl 1 (List.map encI (v0_u.regs)),AV.sl 1 (List.map encThr (v0_u.code))]]) (fun _ a28=>stOf 30 []) (fun _ a28=>[Ob.var 25 [iA (v0_u.mod),AV.sl 1 (List.map encI (v0_u.init)),AV.sl 1 (List.map encI (v0_u.regs)),AV.sl 1 (List.map encThr (v0_u.code))]]) (fun v=>(bA v,[])) (fun k s=>report_named_L0 n v0_u v1_model v2_paths k s) (fun s=>rfl) o9 n 0 (fun _=>0) ho9 ?_ ?_
 intro k2 s1 a3 K4 cont5 hK6 hcont7 h hr8
 replace h:report_named_L0 n v0_u v1_model v2_paths (k2+1) s1=some o9:=h
 rw [report_named_L0] at h
 conv=>lhs;whnf
 revert h
 refine br ?_ ?_
 refine ix ?_;intro x11
 intro h;refine bind_some2 h ?_;clear h;intro o20 ho20 h
 refine lq (σ:=Int) (τ:=Unit) (ν:=Bool) 2 (fun s12 a14=>stOf 30 [(1,iA v1_model),(3,AV.ptr 0 0),(11,AV.sl 1 (List.map encRow v2_paths)),(12,iA (((v2_paths.length:Nat):Int))),(13,iA s1),(17,AV.sl 1 (List.map encI x11)),(18,iA (((x11.length:Nat):Int))),(19,iA s12)]) (fun s12 a14=>[Ob.var 25 [iA (v0_u.mod),AV.sl 1 (List.map encI (v0_u.init)),AV.sl 1 (List.map encI (v0_u.regs)),AV.sl 1 (List.map encThr (v0_u.code))]]) (fun _ a26=>stOf 30 [(1,iA v1_model),(3,AV.ptr 0 0),(11,AV.sl 1 (List.map encRow v2_paths)),(12,iA (((v2_paths.length:Nat):Int))),(13,iA s1)]) (fun _ a26=>[Ob.var 25 [iA (v0_u.mod),AV.sl 1 (List.map encI (v0_u.init)),AV.sl 1 (List.map encI (v0_u.regs)),AV.sl 1 (List.map encThr (v0_u.code))]]) (fun v=>(bA v,[])) (fun k s=>report_named_L1 n v0_u v1_model x11 k s) (fun s=>rfl) o20 n 0 (fun _=>0) ho20 ?_ ?_
 intro k13 s12 a14 K15 cont16 hK17 hcont18 h hr19
 replace h:report_named_L1 n v0_u v1_model x11 (k13+1) s12=some o20:=h
 rw [report_named_L1] at h
 conv=>lhs;whnf
 revert h
 refine br ?_ ?_
 refine ix ?_;intro x22
 refine ca hc (fun _ h=>ok0_machine_Name h) ?_;intro y23
 refine br ?_ ?_
 intro h;cases sj h
 refine (hK17 _ _).trans ?_
 conv=>lhs;whnf
 refine (hK6 _ _).trans ?_
 refine Eq.trans ?_ (Eq.symm (show _=some _ from hr19))
 conv=>lhs;whnf
 exact rq
 exact fun h=>cq (hcont18 (IntKind.i64.wrap (s12+1)) (fun _=>0) h)
 intro h;cases sj h
 exact kq (hr19 (fun _=>0))
 refine lrc ?_ ?_
 intro v e;subst e;cases sj h;exact hr8
 intro t a26 e;subst e
 dsimp only at h
 conv=>lhs;whnf
 revert h
 exact fun h=>cq (hcont7 (IntKind.i64.wrap (s1+1)) (fun _=>0) h)
 intro h;cases sj h
 exact kq (hr8 (fun _=>0))
 refine lrc ?_ ?_
 intro v e;subst e;cases sj h;rfl
 intro t a28 e;subst e
 dsimp only at h
 conv=>lhs;whnf
 revert h
 exact rz

theorem ok0_report_within {n:Nat} ⦃v0_n:Int⦄ ⦃v1_low:Int⦄ ⦃v2_high:Int⦄ ⦃r:Bool⦄:m_report_within n v0_n v1_low v2_high=some r→CN0 n 17 [iA v0_n,iA v1_low,iA v2_high] []=some (bA r,[]):=by
 intro h;rcases n with _|n;cases h
 rw [m_report_within] at h
 refine callN_eq' Try.func17 (by rfl) rfl rfl (Nat.le_of_ble_eq_true rfl) ?_
 intro call hc;conv=>lhs;whnf
 revert h
 refine br ?_ ?_
 exact rz
 exact rz

theorem ok0_report_Right {n:Nat} ⦃v0_u:UnitS⦄ ⦃v1_model:Int⦄ ⦃v2_v:S_api_Verdict⦄ ⦃r:Bool⦄:m_report_Right n v0_u v1_model v2_v=some r→CN0 n 8 [AV.agg [iA (v0_u.mod),AV.sl 1 (List.map encI (v0_u.init)),AV.sl 1 (List.map encI (v0_u.regs)),AV.sl 1 (List.map encThr (v0_u.code))],iA v1_model,AV.agg [iA v2_v.f_Outcome,AV.sl 1 (List.map encI v2_v.f_Prefix),AV.sl 1 (List.map encI v2_v.f_Cycle),AV.sl 3 (List.map c_api_Result v2_v.f_Results),iA v2_v.f_States,iA v2_v.f_Edges]] []=some (bA r,[]):=by
 intro h;rcases n with _|n;cases h
 rw [m_report_Right] at h
 refine callN_eq' Try.func8 (by rfl) rfl rfl (Nat.le_of_ble_eq_true rfl) ?_
 intro call hc;conv=>lhs;whnf
 revert h
 refine ca hc (fun _ h=>ok0_report_within h) ?_;intro y1
 refine br ?_ ?_
 refine ca hc (fun _ h=>ok0_report_within h) ?_;intro y4
 refine br ?_ ?_
 refine ca hc (fun _ h=>ok0_report_within h) ?_;intro y7
 refine br ?_ ?_
 refine br ?_ ?_
 exact rz
 intro h;refine bind_some2 h ?_;clear h;intro o19 ho19 h
 refine lq (σ:=Int) (τ:=Unit) (ν:=Bool) 0 (fun s11 a13=>stOf 65 [(1,iA v1_model),(3,AV.ptr 0 0),(5,AV.ptr 1 0),(32,AV.sl 3 (List.map c_api_Result v2_v.f_Results)),(33,iA (((v2_v.f_Results.length:Nat):Int))),(34,iA s11)]) (fun s11 a13=>[Ob.var 25 [iA (v0_u.mod),AV.sl 1 (List.map encI (v0_u.init)),AV.sl 1 (List.map encI (v0_u.regs)),AV.sl 1 (List.map encThr (v0_u.code))],Ob.var 28 [iA v2_v.f_Outcome,AV.sl 1 (List.map encI v2_v.f_Prefix),AV.sl 1 (List.map encI v2_v.f_Cycle),AV.sl 3 (List.map c_api_Result v2_v.f_Results),iA v2_v.f_States,iA v2_v.f_Edges]]) (fun _ a27=>stOf 65 [(1,iA v1_model),(3,AV.ptr 0 0),(5,AV.ptr 1 0)]) (fun _ a27=>[Ob.var 25 [iA (v0_u.mod),AV.sl 1 (List.map encI (v0_u.init)),AV.sl 1 (List.map encI (v0_u.regs)),AV.sl 1 (List.map encThr (v0_u.code))],Ob.var 28 [iA v2_v.f_Outcome,AV.sl 1 (List.map encI v2_v.f_Prefix),AV.sl 1 (List.map encI v2_v.f_Cycle),AV.sl 3 (List.map c_api_Result v2_v.f_Results),iA v2_v.f_States,iA v2_v.f_Edges]]) (fun v=>(bA v,[])) (fun k s=>report_Right_L0 n v0_u v1_model v2_v k s) (fun s=>rfl) o19 n 0 (fun _=>0) ho19 ?_ ?_
 intro k12 s11 a13 K14 cont15 hK16 hcont17 h hr18
 replace h:report_Right_L0 n v0_u v1_model v2_v (k12+1) s11=some o19:=h
 rw [report_Right_L0] at h
 conv=>lhs;whnf
 revert h
 refine br ?_ ?_
 refine ix ?_;intro x21
 refine cr hc (fun y22 h=>(show CN0 n 18 [AV.agg [iA (v0_u.mod),AV.sl 1 (List.map encI (v0_u.init)),AV.sl 1 (List.map encI (v0_u.regs)),AV.sl 1 (List.map encThr (v0_u.code))],iA v1_model,AV.sl 1 [[AV.sl 1 (List.map encI x21.f_Path)]]] []=some (bA y22,[]) from ok0_report_named (r:=y22) h)) ?_;intro y22
 refine br ?_ ?_
 refine br ?_ ?_
 exact fun h=>cq (hcont17 (IntKind.i64.wrap (s11+1)) (fun _=>0) h)
 refine br ?_ ?_
 intro h;cases sj h
 refine (hK16 _ _).trans ?_
 refine Eq.trans ?_ (Eq.symm (show _=some _ from hr18))
 conv=>lhs;whnf
 exact rq
 exact fun h=>cq (hcont17 (IntKind.i64.wrap (s11+1)) (fun _=>0) h)
 intro h;cases sj h
 refine (hK16 _ _).trans ?_
 refine Eq.trans ?_ (Eq.symm (show _=some _ from hr18))
 conv=>lhs;whnf
 exact rq
 intro h;cases sj h
 exact kq (hr18 (fun _=>0))
 refine lrc ?_ ?_
 intro v e;subst e;cases sj h;rfl
 intro t a27 e;subst e
 dsimp only at h
 conv=>lhs;whnf
 revert h
 refine cr hc (fun y28 h=>(show CN0 n 18 [AV.agg [iA (v0_u.mod),AV.sl 1 (List.map encI (v0_u.init)),AV.sl 1 (List.map encI (v0_u.regs)),AV.sl 1 (List.map encThr (v0_u.code))],iA v1_model,AV.sl 1 [[AV.sl 1 (List.map encI v2_v.f_Prefix)],[AV.sl 1 (List.map encI v2_v.f_Cycle)]]] []=some (bA y28,[]) from ok0_report_named (r:=y28) h)) ?_;intro y28
 exact rz
 exact rz
 exact rz
 exact rz

theorem ok0_trail_Text {n:Nat} ⦃v0_u:UnitS⦄ ⦃v1_model:Int⦄ ⦃v2_path:(List Int)⦄ ⦃r:(List UInt8)⦄:m_trail_Text n v0_u v1_model v2_path=some r→CN0 n 34 [AV.agg [iA (v0_u.mod),AV.sl 1 (List.map encI (v0_u.init)),AV.sl 1 (List.map encI (v0_u.regs)),AV.sl 1 (List.map encThr (v0_u.code))],iA v1_model,AV.sl 1 (List.map encI v2_path)] []=some (sA r,[]):=by
 intro h;rcases n with _|n;cases h
 rw [m_trail_Text] at h
 refine callN_eq' Try.func34 (by rfl) rfl rfl (Nat.le_of_ble_eq_true rfl) ?_
 intro call hc;conv=>lhs;whnf
 revert h
 intro h;refine bind_some2 h ?_;clear h;intro o10 ho10 h
 refine lq (σ:=((List UInt8)×Int)) (τ:=(List UInt8)) (ν:=(List UInt8)) 0 (fun (s1,s2) a4=>stOf 33 [(1,iA v1_model),(3,AV.ptr 0 0),(7,sA s1),(11,AV.sl 1 (List.map encI v2_path)),(12,iA (((v2_path.length:Nat):Int))),(13,iA s2)]) (fun (s1,s2) a4=>[Ob.var 25 [iA (v0_u.mod),AV.sl 1 (List.map encI (v0_u.init)),AV.sl 1 (List.map encI (v0_u.regs)),AV.sl 1 (List.map encThr (v0_u.code))]]) (fun x26 a25=>stOf 33 [(7,sA x26)]) (fun x26 a25=>[Ob.var 25 [iA (v0_u.mod),AV.sl 1 (List.map encI (v0_u.init)),AV.sl 1 (List.map encI (v0_u.regs)),AV.sl 1 (List.map encThr (v0_u.code))]]) (fun v=>(sA v,[])) (fun k s=>trail_Text_L0 n v0_u v1_model v2_path k s.1 s.2) (fun s=>rfl) o10 n (([]:List UInt8),0) (fun _=>0) ho10 ?_ ?_
 intro k3 ss a4 K5 cont6 hK7 hcont8 h hr9
 obtain ⟨s1,s2⟩:=ss
 replace h:trail_Text_L0 n v0_u v1_model v2_path (k3+1) s1 s2=some o10:=h
 rw [trail_Text_L0] at h
 conv=>lhs;whnf
 revert h
 refine br ?_ ?_
 refine ix ?_;intro x12
 refine br ?_ ?_
 intro h
 refine chk_some2 h ?_;clear h;intro hc14 h
 refine bif_pos hc14 ?_
 try simp only [ls]
 conv=>lhs;whnf
 revert h
 refine ca hc (fun _ h=>ok0_machine_Name h) ?_;intro y15
 refine br ?_ ?_
 intro h
 refine chk_some2 h ?_;clear h;intro hc18 h
 refine bif_pos hc18 ?_
 try simp only [ls]
 conv=>lhs;whnf
 revert h
 exact fun h=>cq (hcont8 (((s1++([32]:List UInt8))++([63]:List UInt8)),IntKind.i64.wrap (s2+1)) (fun _=>0) h)
 intro h
 refine chk_some2 h ?_;clear h;intro hc19 h
 refine bif_pos hc19 ?_
 try simp only [ls]
 conv=>lhs;whnf
 revert h
 exact fun h=>cq (hcont8 (((s1++([32]:List UInt8))++y15),IntKind.i64.wrap (s2+1)) (fun _=>0) h)
 refine ca hc (fun _ h=>ok0_machine_Name h) ?_;intro y20
 refine br ?_ ?_
 intro h
 refine chk_some2 h ?_;clear h;intro hc23 h
 refine bif_pos hc23 ?_
 try simp only [ls]
 conv=>lhs;whnf
 revert h
 exact fun h=>cq (hcont8 ((s1++([63]:List UInt8)),IntKind.i64.wrap (s2+1)) (fun _=>0) h)
 intro h
 refine chk_some2 h ?_;clear h;intro hc24 h
 refine bif_pos hc24 ?_
 try simp only [ls]
 conv=>lhs;whnf
 revert h
 exact fun h=>cq (hcont8 ((s1++y20),IntKind.i64.wrap (s2+1)) (fun _=>0) h)
 intro h;cases sj h
 exact kq (hr9 (fun _=>0))
 refine lrc ?_ ?_
 intro v e;subst e;cases sj h;rfl
 intro x26 a25 e;subst e
 dsimp only at h
 conv=>lhs;whnf
 revert h
 exact rz
end Go.Proofs.Ytmaklniljnbokaa
end

section
namespace Go.Proofs.Ytmaklniljnbokaa
open Go.RowKit
set_option linter.unusedVariables false
set_option linter.unusedSimpArgs false
set_option maxRecDepth 100000

inductive It where
  | s (b : List UInt8)
  | n (k : Int)
  | p (l : List Int)
def It.cell : It → List AV
  | .s b => [.ifc 9 (.str b)]
  | .n k => [.ifc 3 (.int .i64 k)]
  | .p l => [.ifc 73 (.sl 1 (l.map encI))]
def itT (u : UnitS) (m : Int) : It → List UInt8
  | .s b => b
  | .n k => decL k
  | .p l => textU u m l
def restI (u : UnitS) (m : Int) : List It → List UInt8
  | [] => []
  | x :: t => 32 :: itT u m x ++ restI u m t
def bodyI (u : UnitS) (m : Int) : List It → List UInt8
  | [] => []
  | x :: t => itT u m x ++ restI u m t
def linesOb (u : UnitS) (m : Int) (s : List UInt8) : Ob := .var 48 (cellsU u ++ [.int .i64 m, .str s])
theorem restI_snoc (u : UnitS) (m : Int) : ∀ (l : List It) (x : It), restI u m (l ++ [x]) = restI u m l ++ (32 :: itT u m x)
  | [], x => by simp [restI]
  | a :: l, x => by simp [restI, restI_snoc u m l x]
theorem restI_app (u : UnitS) (m : Int) : ∀ (l t : List It), restI u m (l ++ t) = restI u m l ++ restI u m t
  | [], t => rfl
  | a :: l, t => by simp [restI, restI_app u m l t]
theorem bodyI_take (u : UnitS) (m : Int) (l : List It) (k : Nat) (h : k < l.length) (h0 : 0 < k) : bodyI u m (l.take (k + 1)) = bodyI u m (l.take k) ++ (32 :: itT u m l[k]) := by
  rw [List.take_add_one, List.getElem?_eq_getElem h, Option.toList_some]
  cases l with
  | nil => simp at h
  | cons a l =>
    cases k with
    | zero => omega
    | succ k => simp only [List.take_succ_cons, List.cons_append, bodyI, restI_snoc, List.append_assoc]
theorem bodyI_len (u : UnitS) (m : Int) (l : List It) (k : Nat) : (bodyI u m (l.take k)).length ≤ (bodyI u m l).length := by
  cases l with
  | nil => simp
  | cons a l =>
    cases k with
    | zero => simp [bodyI]
    | succ k =>
      have : restI u m l = restI u m (l.take k) ++ restI u m (l.drop k) := by rw [← restI_app, List.take_append_drop]
      simp only [List.take_succ_cons, bodyI, List.length_append]
      rw [this, List.length_append]; omega
/-- An item that can be written. -/
def It.good (X : Ext) (u : UnitS) (m : Int) (n : Nat) : It → Prop
  | .s _ => True
  | .n k => 0 ≤ k ∧ k ≤ 1000000000 ∧ k.toNat + 2 < n
  | .p l => callN Try.prog HH X n 34 [aU u, .int .i64 m, .sl 1 (l.map encI)] [] = some (.str (textU u m l), [])
set_option maxHeartbeats 4000000 in
theorem line_abs (u : UnitS) (m : Int) (s : List UInt8) (l : List It) (n : Nat) (hn : l.length + 2 < n) (hl : l.length ≤ 1000) (hs : s.length + (bodyI u m l).length ≤ 1000000000) (hg : ∀ x ∈ l, x.good XT0 u m n) : callN Try.prog HH XT0 (n + 1) 20 [.ptr 0 0, .sl 1 (l.map It.cell)] [linesOb u m s] = some (.tup [], [linesOb u m (s ++ bodyI u m l ++ [10])]) := by
  refine callN_eq' Try.func20 rfl rfl rfl (by show 2 ≤ 81; decide) ?_
  intro call hc
  conv => lhs; whnf
  refine rounds_ind (σ := Nat) (fun k => k ≤ l.length) (fun k => stOf 81 [(0, .ptr 0 0), (10, .sl 1 (l.map It.cell)), (11, .int .i64 ((l.map It.cell).length : Nat)), (12, .int .i64 k)]) (fun k => [linesOb u m (s ++ bodyI u m (l.take k))]) (fun k => l.length - k) ?_ n 0 _ _ (by omega) (by omega) rfl (by simp [bodyI]; rfl)
  intro k q hk ih
  have hbl := bodyI_len u m l k
  have hbl2 := bodyI_len u m l (k + 1)
  by_cases hlt : k < l.length
  · have e2 := wrap_succ k (by omega)
    obtain ⟨x, hx⟩ : ∃ x, l[k] = x := ⟨_, rfl⟩
    have gk : nth? (l.map It.cell) k = some x.cell := nth?_map' hlt hx
    have hgx := hg x (hx ▸ List.getElem_mem hlt)
    have hcut : bodyI u m (l.take (k + 1)) = bodyI u m (l.take k) ++ ((if k = 0 then [] else [32]) ++ itT u m x) := by
      by_cases k0 : k = 0
      · subst k0
        rw [if_pos rfl]
        cases l with
        | nil => simp at hlt
        | cons a l =>
          simp only [List.getElem_cons_zero] at hx
          subst hx
          simp [bodyI, restI]
      · rw [if_neg k0, bodyI_take u m l k hlt (by omega), hx]; rfl
    rw [hcut] at hbl2
    by_cases k0 : k = 0
    · rw [if_pos k0] at hcut hbl2
      simp only [List.length_append, List.nil_append] at hbl2
      cases x with
      | s b =>
        simp only [It.cell] at gk
        simp only [itT] at hcut hbl2
        conv => lhs; whnf
        repeat (first | (refine wkp ?_; conv => lhs; whnf) | (refine wkn ?_; conv => lhs; whnf) | (simp only [Int.toNat_natCast, hc, gk]; conv => lhs; whnf))
        refine ih (k + 1) _ _ (by omega) (by omega) ?_ ?_
        · rw [e2]; rfl
        · rw [hcut, List.nil_append, ← List.append_assoc]; rfl
      | n j =>
        simp only [It.cell] at gk
        simp only [itT] at hcut hbl2
        obtain ⟨g1, g2, g3⟩ := hgx
        have hd := rpdec_abs (X := XT0) rfl n j g1 (by omega) (by omega)
        conv => lhs; whnf
        repeat (first | (refine wkp ?_; conv => lhs; whnf) | (refine wkn ?_; conv => lhs; whnf) | (simp only [Int.toNat_natCast, hc, gk, hd]; conv => lhs; whnf))
        refine ih (k + 1) _ _ (by omega) (by omega) ?_ ?_
        · rw [e2]; rfl
        · rw [hcut, List.nil_append, ← List.append_assoc]; rfl
      | p t =>
        simp only [It.cell] at gk
        simp only [itT] at hcut hbl2
        simp only [It.good, aU, cellsU] at hgx
        conv => lhs; whnf
        repeat (first | (refine wkp ?_; conv => lhs; whnf) | (refine wkn ?_; conv => lhs; whnf) | (simp only [Int.toNat_natCast, hc, gk, hgx]; conv => lhs; whnf))
        refine ih (k + 1) _ _ (by omega) (by omega) ?_ ?_
        · rw [e2]; rfl
        · rw [hcut, List.nil_append, ← List.append_assoc]; rfl
    · rw [if_neg k0] at hcut hbl2
      simp only [List.length_append, List.length_cons, List.length_nil] at hbl2
      cases x with
      | s b =>
        simp only [It.cell] at gk
        simp only [itT] at hcut hbl2
        conv => lhs; whnf
        repeat (first | (refine wkp ?_; conv => lhs; whnf) | (refine wkn ?_; conv => lhs; whnf) | (simp only [Int.toNat_natCast, hc, gk]; conv => lhs; whnf))
        refine ih (k + 1) _ _ (by omega) (by omega) ?_ ?_
        · rw [e2]; rfl
        · rw [hcut, ← List.append_assoc, ← List.append_assoc]; rfl
      | n j =>
        simp only [It.cell] at gk
        simp only [itT] at hcut hbl2
        obtain ⟨g1, g2, g3⟩ := hgx
        have hd := rpdec_abs (X := XT0) rfl n j g1 (by omega) (by omega)
        conv => lhs; whnf
        repeat (first | (refine wkp ?_; conv => lhs; whnf) | (refine wkn ?_; conv => lhs; whnf) | (simp only [Int.toNat_natCast, hc, gk, hd]; conv => lhs; whnf))
        refine ih (k + 1) _ _ (by omega) (by omega) ?_ ?_
        · rw [e2]; rfl
        · rw [hcut, ← List.append_assoc, ← List.append_assoc]; rfl
      | p t =>
        simp only [It.cell] at gk
        simp only [itT] at hcut hbl2
        simp only [It.good, aU, cellsU] at hgx
        conv => lhs; whnf
        repeat (first | (refine wkp ?_; conv => lhs; whnf) | (refine wkn ?_; conv => lhs; whnf) | (simp only [Int.toNat_natCast, hc, gk, hgx]; conv => lhs; whnf))
        refine ih (k + 1) _ _ (by omega) (by omega) ?_ ?_
        · rw [e2]; rfl
        · rw [hcut, ← List.append_assoc, ← List.append_assoc]; rfl
  · have hkl : k = l.length := by omega
    subst hkl
    rw [List.take_length] at hbl
    conv => lhs; whnf
    repeat (first | (refine wkp ?_; conv => lhs; whnf) | (refine wkn ?_; conv => lhs; whnf) | (simp only [Int.toNat_natCast, hc, List.take_length]; conv => lhs; whnf))
    exact some_pair rfl rfl
end Go.Proofs.Ytmaklniljnbokaa
end

section
namespace Go.Proofs.Ytmaklniljnbokaa
open Go.RowKit
set_option linter.unusedVariables false
set_option linter.unusedSimpArgs false
set_option maxRecDepth 100000

theorem path_abs (w : List UInt8) (l : List Int) (n : Nat) : callN Try.prog HH XT0 (n + 1) 22 [.str w, .sl 1 (l.map encI)] [] = some (.sl 1 ((if l = [] then [It.s w] else [It.s w, It.p l]).map It.cell), []) := by
  refine callN_eq' Try.func22 rfl rfl rfl (by show 2 ≤ 16; decide) ?_
  intro call hc
  conv => lhs; whnf
  cases l with
  | nil => repeat (first | (refine wkp ?_; conv => lhs; whnf) | (refine wkn ?_; conv => lhs; whnf) | (simp only [Int.toNat_natCast, hc]; conv => lhs; whnf)); exact some_pair rfl rfl
  | cons a l =>
    repeat (first | (refine wkp ?_; conv => lhs; whnf) | (refine wkn ?_; conv => lhs; whnf) | (simp only [Int.toNat_natCast, hc]; conv => lhs; whnf))
    exact some_pair rfl rfl
end Go.Proofs.Ytmaklniljnbokaa
end

section
namespace Go.Proofs.Ytmaklniljnbokaa
open Go.RowKit
set_option linter.unusedVariables false
set_option linter.unusedSimpArgs false
set_option maxRecDepth 100000

set_option maxHeartbeats 4000000 in
theorem line_stk (u : UnitS) (m : Int) (s : List UInt8) (l : List It) (n ver kk : Nat) (hkk : kk = l.length) (hn : l.length + 2 < n) (hl : l.length ≤ 1000) (hs : s.length + (bodyI u m l).length ≤ 1000000000) (hg : ∀ x ∈ l, x.good XT0 u m n) : callN Try.prog HH XT0 (n + 1) 20 [.ptr 0 0, .stk 1 ver kk] [linesOb u m s, .stk ver 20 1 (l.map It.cell)] = some (.tup [], [linesOb u m (s ++ bodyI u m l ++ [10]), .stk ver 20 1 (l.map It.cell)]) := by
  refine callN_eq' Try.func20 rfl rfl rfl (by show 2 ≤ 81; decide) ?_
  intro call hc
  conv => lhs; whnf
  refine rounds_ind (σ := Nat) (fun k => k ≤ l.length) (fun k => stOf 81 [(0, .ptr 0 0), (10, .stk 1 ver kk), (11, .int .i64 (kk : Nat)), (12, .int .i64 k)]) (fun k => [linesOb u m (s ++ bodyI u m (l.take k)), .stk ver 20 1 (l.map It.cell)]) (fun k => l.length - k) ?_ n 0 _ _ (by omega) (by omega) rfl (by simp [bodyI]; rfl)
  intro k q hk ih
  have hbl := bodyI_len u m l k
  have hbl2 := bodyI_len u m l (k + 1)
  by_cases hlt : k < l.length
  · have e2 := wrap_succ k (by omega)
    obtain ⟨x, hx⟩ : ∃ x, l[k] = x := ⟨_, rfl⟩
    have gk : nth? (l.map It.cell) k = some x.cell := nth?_map' hlt hx
    have hgx := hg x (hx ▸ List.getElem_mem hlt)
    have hcut : bodyI u m (l.take (k + 1)) = bodyI u m (l.take k) ++ ((if k = 0 then [] else [32]) ++ itT u m x) := by
      by_cases k0 : k = 0
      · subst k0
        rw [if_pos rfl]
        cases l with
        | nil => simp at hlt
        | cons a l =>
          simp only [List.getElem_cons_zero] at hx
          subst hx
          simp [bodyI, restI]
      · rw [if_neg k0, bodyI_take u m l k hlt (by omega), hx]; rfl
    rw [hcut] at hbl2
    by_cases k0 : k = 0
    · rw [if_pos k0] at hcut hbl2
      simp only [List.length_append, List.nil_append] at hbl2
      cases x with
      | s b =>
        simp only [It.cell] at gk
        simp only [itT] at hcut hbl2
        conv => lhs; whnf
        repeat (first | (refine wkp ?_; conv => lhs; whnf) | (refine wkn ?_; conv => lhs; whnf) | (simp only [Int.toNat_natCast, hc, gk]; conv => lhs; whnf))
        refine ih (k + 1) _ _ (by omega) (by omega) ?_ ?_
        · rw [e2]; rfl
        · rw [hcut, List.nil_append, ← List.append_assoc]; rfl
      | n j =>
        simp only [It.cell] at gk
        simp only [itT] at hcut hbl2
        obtain ⟨g1, g2, g3⟩ := hgx
        have hd := rpdec_abs (X := XT0) rfl n j g1 (by omega) (by omega)
        conv => lhs; whnf
        repeat (first | (refine wkp ?_; conv => lhs; whnf) | (refine wkn ?_; conv => lhs; whnf) | (simp only [Int.toNat_natCast, hc, gk, hd]; conv => lhs; whnf))
        refine ih (k + 1) _ _ (by omega) (by omega) ?_ ?_
        · rw [e2]; rfl
        · rw [hcut, List.nil_append, ← List.append_assoc]; rfl
      | p t =>
        simp only [It.cell] at gk
        simp only [itT] at hcut hbl2
        simp only [It.good, aU, cellsU] at hgx
        conv => lhs; whnf
        repeat (first | (refine wkp ?_; conv => lhs; whnf) | (refine wkn ?_; conv => lhs; whnf) | (simp only [Int.toNat_natCast, hc, gk, hgx]; conv => lhs; whnf))
        refine ih (k + 1) _ _ (by omega) (by omega) ?_ ?_
        · rw [e2]; rfl
        · rw [hcut, List.nil_append, ← List.append_assoc]; rfl
    · rw [if_neg k0] at hcut hbl2
      simp only [List.length_append, List.length_cons, List.length_nil] at hbl2
      cases x with
      | s b =>
        simp only [It.cell] at gk
        simp only [itT] at hcut hbl2
        conv => lhs; whnf
        repeat (first | (refine wkp ?_; conv => lhs; whnf) | (refine wkn ?_; conv => lhs; whnf) | (simp only [Int.toNat_natCast, hc, gk]; conv => lhs; whnf))
        refine ih (k + 1) _ _ (by omega) (by omega) ?_ ?_
        · rw [e2]; rfl
        · rw [hcut, ← List.append_assoc, ← List.append_assoc]; rfl
      | n j =>
        simp only [It.cell] at gk
        simp only [itT] at hcut hbl2
        obtain ⟨g1, g2, g3⟩ := hgx
        have hd := rpdec_abs (X := XT0) rfl n j g1 (by omega) (by omega)
        conv => lhs; whnf
        repeat (first | (refine wkp ?_; conv => lhs; whnf) | (refine wkn ?_; conv => lhs; whnf) | (simp only [Int.toNat_natCast, hc, gk, hd]; conv => lhs; whnf))
        refine ih (k + 1) _ _ (by omega) (by omega) ?_ ?_
        · rw [e2]; rfl
        · rw [hcut, ← List.append_assoc, ← List.append_assoc]; rfl
      | p t =>
        simp only [It.cell] at gk
        simp only [itT] at hcut hbl2
        simp only [It.good, aU, cellsU] at hgx
        conv => lhs; whnf
        repeat (first | (refine wkp ?_; conv => lhs; whnf) | (refine wkn ?_; conv => lhs; whnf) | (simp only [Int.toNat_natCast, hc, gk, hgx]; conv => lhs; whnf))
        refine ih (k + 1) _ _ (by omega) (by omega) ?_ ?_
        · rw [e2]; rfl
        · rw [hcut, ← List.append_assoc, ← List.append_assoc]; rfl
  · have hkl : k = l.length := by omega
    subst hkl
    rw [List.take_length] at hbl
    conv => lhs; whnf
    repeat (first | (refine wkp ?_; conv => lhs; whnf) | (refine wkn ?_; conv => lhs; whnf) | (simp only [Int.toNat_natCast, hc, List.take_length]; conv => lhs; whnf))
    exact some_pair rfl rfl
end Go.Proofs.Ytmaklniljnbokaa
end

section
namespace Go.Proofs.Ytmaklniljnbokaa
set_option linter.unusedVariables false
set_option linter.unusedSimpArgs false

theorem idx_get {α : Type} {l : List α} {i : Nat} (h : i < l.length) : idx l (i : Int) = some l[i] := by rw [idx_nat, List.getElem?_eq_getElem h]
theorem wrap_one (k : Nat) (h : k < 4611686018427387904) : IntKind.i64.wrap ((k : Int) + 1) = ((k + 1 : Nat) : Int) := wrap_succ k (by omega)
theorem bif_decide {α : Type} {p : Prop} [Decidable p] (h : p) (a b : α) : (bif decide p then a else b) = a := by rw [decide_eq_true h]; rfl
theorem bif_not {α : Type} {p : Prop} [Decidable p] (h : ¬ p) (a b : α) : (bif decide p then a else b) = b := by rw [decide_eq_false h]; rfl
end Go.Proofs.Ytmaklniljnbokaa
end

section
namespace Go.Proofs.Ytmaklniljnbokaa
set_option linter.unusedVariables false
set_option linter.unusedSimpArgs false

/-- A loop over a row. -/
theorem loop_list {α σ ρ : Type} (l : List α) (L : Nat → Nat → σ → Option ρ) (F : List α → σ → Option ρ) (Inv : Nat → σ → Prop)
    (h0 : ∀ k s, Inv l.length s → L (k + 1) l.length s = F [] s)
    (h1 : ∀ k i s x, i < l.length → l[i]? = some x → Inv i s → (∀ s', Inv (i + 1) s' → L k (i + 1) s' = F (l.drop (i + 1)) s') → L (k + 1) i s = F (x :: l.drop (i + 1)) s) :
    ∀ (m k i : Nat) (s : σ), i + m = l.length → m < k → Inv i s → L k i s = F (l.drop i) s := by
  intro m
  induction m with
  | zero =>
    intro k i s hi hk hs
    obtain ⟨k, rfl⟩ : ∃ j, k = j + 1 := ⟨k - 1, by omega⟩
    obtain rfl : i = l.length := by omega
    rw [h0 k s hs, List.drop_length]
  | succ m ih =>
    intro k i s hi hk hs
    obtain ⟨k, rfl⟩ : ∃ j, k = j + 1 := ⟨k - 1, by omega⟩
    have hlt : i < l.length := by omega
    rw [h1 k i s l[i] hlt (List.getElem?_eq_getElem hlt) hs (fun s' hs' => ih k (i + 1) s' (by omega) (by omega) hs'), List.drop_eq_getElem_cons hlt]
theorem loop_list0 {α σ ρ : Type} (l : List α) (L : Nat → Nat → σ → Option ρ) (F : List α → σ → Option ρ) (Inv : Nat → σ → Prop) {k : Nat} {s : σ} (hk : l.length < k) (hs : Inv 0 s)
    (h0 : ∀ k s, Inv l.length s → L (k + 1) l.length s = F [] s)
    (h1 : ∀ k i s x, i < l.length → l[i]? = some x → Inv i s → (∀ s', Inv (i + 1) s' → L k (i + 1) s' = F (l.drop (i + 1)) s') → L (k + 1) i s = F (x :: l.drop (i + 1)) s) :
    L k 0 s = F l s := loop_list l L F Inv h0 h1 l.length k 0 s (by omega) hk hs
theorem idx_some {α : Type} {l : List α} {i : Nat} {x : α} (h : l[i]? = some x) : idx l (i : Int) = some x := by rw [idx_nat, h]

theorem all_list {α : Type} (l : List α) (L : Nat → Nat → Option (LR Unit Bool)) (p : α → Bool) (h0 : ∀ k, L (k + 1) l.length = some (.out ()))
    (h1 : ∀ k i x, i < l.length → l[i]? = some x → L (k + 1) i = bif p x then L k (i + 1) else some (.ret false)) {k : Nat} (hk : l.length < k) : L k 0 = bif l.all p then some (.out ()) else some (.ret false) := by
  refine loop_list0 l (fun k i (_ : Unit) => L k i) (fun l _ => bif l.all p then some (.out ()) else some (.ret false)) (fun _ _ => True) (s := ()) hk trivial (fun k s _ => h0 k) ?_
  intro k i s x hi hx _ ih
  rw [h1 k i x hi hx, ih () trivial, List.all_cons]
  cases p x <;> rfl
end Go.Proofs.Ytmaklniljnbokaa
end

section
namespace Go.Proofs.Ytmaklniljnbokaa
set_option linter.unusedVariables false
set_option linter.unusedSimpArgs false
set_option maxRecDepth 100000

theorem decF_short : ∀ (k : Nat) (x : Int) (j : Nat), 0 ≤ x → x < 10 ^ (j + 1) → (decF k x).length ≤ j + 1
  | 0, x, j, _, _ => by simp [decF]
  | k + 1, x, j, h0, h => by
    simp only [decF]
    split
    · simp
    · cases j with
      | zero => simp at h; omega
      | succ j =>
        have h2 : x < 10 * 10 ^ (j + 1) := by rw [Int.pow_succ, Int.mul_comm] at h; exact h
        have := decF_short k (x / 10) j (by omega) (by omega)
        simp only [List.length_append, List.length_cons, List.length_nil]; omega
theorem decL_short (x : Int) (j : Nat) (h0 : 0 ≤ x) (h : x < 10 ^ (j + 1)) : (decL x).length ≤ j + 1 := decF_short _ _ _ h0 h
theorem right_lens {u : UnitS} (hu : rightU u = true) : 1 ≤ u.regs.length ∧ u.regs.length ≤ 4 ∧ u.init.length ≤ 6 := by
  simp only [rightU, headOk, Bool.and_eq_true, decide_eq_true_eq] at hu
  omega
theorem nameU_of {u : UnitS} {m : Int} {a : Nat} {x : Agt} (h : (agentsL u m)[a]? = some x) : nameU u m (a : Int) = x.name := by
  obtain ⟨hl, rfl⟩ := List.getElem?_eq_some_iff.1 h
  unfold nameU; rw [dif_pos ⟨by omega, by simpa using hl⟩]; rfl
end Go.Proofs.Ytmaklniljnbokaa
end

section
namespace Go.Proofs.Ytmaklniljnbokaa
set_option linter.unusedVariables false
set_option linter.unusedSimpArgs false
set_option maxRecDepth 100000

theorem restT_app (u : UnitS) (m : Int) : ∀ (l t : List Int), restT u m (l ++ t) = restT u m l ++ restT u m t
  | [], t => rfl
  | a :: l, t => by simp [restT, restT_app u m l t]
theorem textU_snoc (u : UnitS) (m : Int) (l : List Int) (x : Int) : textU u m (l ++ [x]) = if l = [] then oneT u m x else textU u m l ++ 32 :: oneT u m x := by
  cases l with
  | nil => simp [textU, restT]
  | cons a l => simp [textU, restT_app, restT]
theorem oneT_len (u : UnitS) (m a : Int) : (oneT u m a).length ≤ 3000 := by
  unfold oneT; split
  · simp
  · exact nameU_len u m a
theorem restT_len (u : UnitS) (m : Int) : ∀ l : List Int, (restT u m l).length ≤ 3001 * l.length
  | [] => by simp [restT]
  | a :: l => by
    have := oneT_len u m a
    have := restT_len u m l
    simp only [restT, List.length_append, List.length_cons]; omega
theorem textU_len (u : UnitS) (m : Int) (l : List Int) : (textU u m l).length ≤ 3001 * l.length := by
  cases l with
  | nil => simp [textU]
  | cons a l =>
    have := oneT_len u m a
    have := restT_len u m l
    simp only [textU, List.length_append, List.length_cons]; omega
theorem textU_step (u : UnitS) (m : Int) (l : List Int) (i : Nat) (h : i < l.length) : textU u m (l.take (i + 1)) = if i = 0 then textU u m (l.take i) ++ oneT u m l[i] else (textU u m (l.take i) ++ [32]) ++ oneT u m l[i] := by
  rw [List.take_add_one, List.getElem?_eq_getElem h, Option.toList_some, textU_snoc]
  by_cases h0 : i = 0
  · subst h0; simp [textU]
  · rw [if_neg h0, if_neg (fun e => by have := congrArg List.length e; rw [List.length_take, List.length_nil] at this; omega)]
    simp
theorem text_L (n : Nat) (u : UnitS) (m : Int) (l : List Int) (hl : l.length ≤ 1000000) : ∀ (j k i : Nat), i + j = l.length → j < k → trail_Text_L0 (n + 1) u m l k (textU u m (l.take i)) (i : Int) = some (.out (textU u m l)) := by
  intro j
  induction j with
  | zero =>
    intro k i hi hk
    obtain ⟨k, rfl⟩ : ∃ j, k = j + 1 := ⟨k - 1, by omega⟩
    rw [trail_Text_L0, bif_not (by omega), List.take_of_length_le (by omega)]
  | succ j ih =>
    intro k i hi hk
    obtain ⟨k, rfl⟩ : ∃ j, k = j + 1 := ⟨k - 1, by omega⟩
    have hlt : i < l.length := by omega
    have hs := textU_step u m l i hlt
    have h1 := textU_len u m (l.take i)
    have h2 := nameU_len u m l[i]
    rw [List.length_take] at h1
    have ih' := ih k (i + 1) (by omega) (by omega)
    rw [trail_Text_L0, bif_decide (by omega), idx_get hlt, Option.bind_some, wrap_one i (by omega)]
    simp only [m_machine_Name, Option.bind_some]
    by_cases h0 : i = 0
    · rw [if_pos h0] at hs
      rw [bif_not (by omega)]
      cases hn : (nameU u m l[i] == []) with
      | true =>
        rw [cond_true, bif_decide (by simp only [List.length_cons, List.length_nil]; omega), ← ih', hs, oneT, if_pos (by simpa using hn)]
      | false =>
        rw [cond_false, bif_decide (by omega), ← ih', hs, oneT, if_neg (by simpa using hn)]
    · rw [if_neg h0] at hs
      rw [bif_decide (by omega), bif_decide (by simp only [List.length_cons, List.length_nil]; omega)]
      cases hn : (nameU u m l[i] == []) with
      | true =>
        rw [cond_true, bif_decide (by simp only [List.length_append, List.length_cons, List.length_nil]; omega), ← ih', hs, oneT, if_pos (by simpa using hn)]
      | false =>
        rw [cond_false, bif_decide (by simp only [List.length_append, List.length_cons, List.length_nil]; omega), ← ih', hs, oneT, if_neg (by simpa using hn)]
theorem text_m (n : Nat) (u : UnitS) (m : Int) (l : List Int) (hl : l.length ≤ 1000000) (hn : l.length + 2 < n) : m_trail_Text n u m l = some (textU u m l) := by
  obtain ⟨n, rfl⟩ : ∃ j, n = j + 2 := ⟨n - 2, by omega⟩
  have := text_L n u m l hl l.length (n + 1) 0 (by omega) (by omega)
  rw [List.take_zero] at this
  rw [m_trail_Text, show (0 : Int) = ((0 : Nat) : Int) from rfl]
  rw [show textU u m [] = [] from rfl] at this
  rw [this]; rfl
theorem named1_L (n : Nat) (u : UnitS) (m : Int) (l : List Int) (hl : l.length ≤ 1000000) (hn : l.length < n + 1) : report_named_L1 (n + 1) u m l (n + 1) 0 = bif namedL u m l then some (.out ()) else some (.ret false) := by
  have := all_list l (fun k i => report_named_L1 (n + 1) u m l k (i : Int)) (fun a => !(nameU u m a == [])) (fun k => by rw [report_named_L1, bif_not (by omega)]) (fun k i x hi hx => by
    rw [report_named_L1, bif_decide (by omega), idx_some hx, Option.bind_some, m_machine_Name, Option.bind_some, wrap_one i (by omega)]
    cases (nameU u m x == []) <;> rfl) (k := n + 1) hn
  exact this
theorem named_m (n : Nat) (u : UnitS) (m : Int) (ls : List (List Int)) (hl : ls.length ≤ 1000000) (h : ∀ l ∈ ls, l.length ≤ 1000000 ∧ l.length + 2 < n) (hn : ls.length + 3 < n) : m_report_named n u m ls = some (ls.all (namedL u m)) := by
  obtain ⟨n, rfl⟩ : ∃ j, n = j + 2 := ⟨n - 2, by omega⟩
  have := all_list ls (fun k i => report_named_L0 (n + 1) u m ls k (i : Int)) (namedL u m) (fun k => by rw [report_named_L0, bif_not (by omega)]) (fun k i x hi hx => by
    have hm := h x (List.mem_of_getElem? hx)
    rw [report_named_L0, bif_decide (by omega), idx_some hx, Option.bind_some, named1_L n u m x hm.1 (by omega), wrap_one i (by omega)]
    cases namedL u m x <;> rfl) (k := n + 1) (by omega)
  rw [m_report_named]
  refine (congrArg (fun o => Option.bind o _) this).trans ?_
  cases ls.all (namedL u m) <;> rfl

/-- Lengths that fuel and memory allow. -/
def fitV (v : S_api_Verdict) (n : Nat) : Prop := v.f_Prefix.length ≤ 1000000 ∧ v.f_Cycle.length ≤ 1000000 ∧ (∀ r ∈ v.f_Results, r.f_Path.length ≤ 1000000 ∧ r.f_Path.length + 20 < n) ∧ v.f_Prefix.length + 20 < n ∧ v.f_Cycle.length + 20 < n ∧ 20 < n
theorem within_m (n : Nat) (a lo hi : Int) : m_report_within (n + 1) a lo hi = some (decide (lo ≤ a ∧ a ≤ hi)) := by
  rw [m_report_within]
  by_cases h : lo ≤ a
  · rw [bif_decide h]; simp [h]
  · rw [bif_not h]; simp [h]
theorem rright_L (n : Nat) (u : UnitS) (m : Int) (v : S_api_Verdict) (h : fitV v (n + 2)) (hl : v.f_Results.length ≤ 8) : report_Right_L0 (n + 1) u m v (n + 1) 0 = bif v.f_Results.all (rightR u m) then some (.out ()) else some (.ret false) := by
  obtain ⟨h1, h2, h3, h4, h5, h6⟩ := h
  refine all_list v.f_Results (fun k i => report_Right_L0 (n + 1) u m v k (i : Int)) (rightR u m) (fun k => by rw [report_Right_L0, bif_not (by omega)]) (fun k i x hi hx => ?_) (k := n + 1) (by omega)
  have hm := h3 x (List.mem_of_getElem? hx)
  rw [report_Right_L0, bif_decide (by omega), idx_some hx, Option.bind_some, named_m _ _ _ _ (by simp) (by intro l hl; simp only [List.mem_singleton] at hl; subst hl; omega) (by simp; omega), Option.bind_some, wrap_one i (by omega)]
  simp only [List.all_cons, List.all_nil, Bool.and_true, rightR]
  cases namedL u m x.f_Path <;> cases x.f_Has <;> simp only [cond_true, cond_false, Bool.true_and, Bool.false_and, Bool.true_or, Bool.false_or]
  by_cases hp : x.f_Path = []
  · rw [decide_eq_true hp, hp]; rfl
  · rw [decide_eq_false hp, bif_decide (by cases hq : x.f_Path with
      | nil => exact absurd hq hp
      | cons a l => simp)]; rfl
theorem rright_m (n : Nat) (u : UnitS) (m : Int) (v : S_api_Verdict) (h : fitV v n) : m_report_Right n u m v = some (rightV u m v) := by
  obtain ⟨n, rfl⟩ : ∃ j, n = j + 2 := ⟨n - 2, by have := h.2.2.2.2.2; omega⟩
  have hh := h
  obtain ⟨h1, h2, h3, h4, h5, h6⟩ := h
  rw [m_report_Right, within_m, Option.bind_some, rightV]
  by_cases c1 : 1 ≤ v.f_Outcome ∧ v.f_Outcome ≤ 3
  rotate_left
  · rw [decide_eq_false c1]; rfl
  rw [decide_eq_true c1, cond_true, within_m, Option.bind_some]
  by_cases c2 : 1 ≤ v.f_States ∧ v.f_States ≤ 100000
  rotate_left
  · rw [decide_eq_false c2]; rfl
  rw [decide_eq_true c2, cond_true, within_m, Option.bind_some]
  by_cases c3 : 0 ≤ v.f_Edges ∧ v.f_Edges ≤ 10000000
  rotate_left
  · rw [decide_eq_false c3]; rfl
  rw [decide_eq_true c3, cond_true]
  by_cases c4 : v.f_Results.length ≤ 8
  rotate_left
  · rw [decide_eq_false c4, bif_decide (by omega)]; rfl
  rw [decide_eq_true c4, bif_not (by omega), rright_L n u m v hh c4, named_m _ _ _ _ (by simp) (by intro l hl; simp only [List.mem_cons, List.not_mem_nil, or_false] at hl; rcases hl with rfl | rfl <;> omega) (by simp; omega)]
  cases v.f_Results.all (rightR u m) with
  | false => rfl
  | true => simp
end Go.Proofs.Ytmaklniljnbokaa
end

section
namespace Go.Proofs.Ytmaklniljnbokaa
open Go.RowKit
set_option linter.unusedVariables false
set_option linter.unusedSimpArgs false
set_option maxRecDepth 100000

theorem fit_of {v : S_api_Verdict} {n : Nat} (h : smallV v = true) (hn : 5000 < n) : fitV v n := by
  simp only [smallV, Bool.and_eq_true, decide_eq_true_eq, List.all_eq_true] at h
  obtain ⟨⟨h1, h2⟩, h3⟩ := h
  refine ⟨by omega, by omega, fun r hr => ?_, by omega, by omega, by omega⟩
  have := h3 r hr
  omega
def pathI (w : List UInt8) (l : List Int) : List It := if l = [] then [It.s w] else [It.s w, It.p l]
theorem pathI_le (w : List UInt8) (l : List Int) : (pathI w l).length ≤ 1000 := by unfold pathI; split <;> simp
theorem pathI_le2 (w : List UInt8) (l : List Int) : (pathI w l).length ≤ 2 := by unfold pathI; split <;> simp
theorem pathI_body (u : UnitS) (m : Int) (w : List UInt8) (l : List Int) : bodyI u m (pathI w l) = pathT u m w l := by
  unfold pathI pathT
  split <;> simp [bodyI, restI, itT]
theorem pathI_rest (u : UnitS) (m : Int) (w : List UInt8) (l : List Int) : restI u m (pathI w l) = 32 :: pathT u m w l := by
  unfold pathI pathT
  split <;> simp [restI, itT]
theorem res_body (u : UnitS) (m : Int) (x : S_api_Result) : resT u m x = bodyI u m ([.s [99, 108, 97, 105, 109], .s (if x.f_Holds = true then [104, 111, 108, 100, 115] else [102, 97, 105, 108, 115])] ++ (if x.f_Has = true then pathI [98, 121] x.f_Path else [])) ++ [10] := by
  simp only [resT, bodyI, List.cons_append, List.nil_append, restI, itT]
  cases x.f_Has <;> simp [pathI_rest, restI]
theorem pathI_len (u : UnitS) (m : Int) (w : List UInt8) (l : List Int) : (bodyI u m (pathI w l)).length ≤ w.length + 1 + 3001 * l.length := by
  rw [pathI_body]
  unfold pathT
  have := textU_len u m l
  split <;> simp <;> omega
theorem outT_len (n : Int) : (outT n).length ≤ 11 := by unfold outT; split <;> (try split) <;> simp
set_option maxHeartbeats 4000000 in
theorem show_abs (u : UnitS) (m : Int) (v : S_api_Verdict) (n : Nat) (hn : 1000000000 < n) (hs : smallV v = true) : callN Try.prog HH XT0 (n + 1) 10 [aU u, .int .i64 m, .agg (c_api_Verdict v)] [] = some (.str (showT u m v), []) := by
  obtain ⟨k, hk⟩ : ∃ k, n = k + 1 := ⟨n - 1, by omega⟩
  refine callN_eq' Try.func10 rfl rfl rfl (by show 3 ≤ 84; decide) ?_
  intro call hc
  have hR := (hc _ _ _).trans (ok0_report_Right (rright_m n u m v (fit_of hs (by omega))))
  have hO0 : m_report_outcomes n = some [[], [116, 101, 114, 109, 105, 110, 97, 116, 105, 110, 103], [100, 101, 97, 100, 108, 111, 99, 107, 105, 110, 103], [108, 105, 118, 101, 108, 111, 99, 107, 105, 110, 103]] := by rw [hk]; rfl
  have hO : callN Try.prog HH XT0 n 21 [] [] = _ := ok0_report_outcomes (n := n) hO0
  conv => lhs; whnf
  simp only [hR]
  conv => lhs; whnf
  cases hr : rightV u m v with
  | false =>
    rw [show showT u m v = [] by rw [showT, hr]; rfl]
    conv => lhs; whnf
    exact some_pair rfl rfl
  | true =>
    have hoc : 1 ≤ v.f_Outcome ∧ v.f_Outcome ≤ 3 := by
      simp only [rightV, Bool.and_eq_true, decide_eq_true_eq] at hr
      exact hr.1.1.1.1.1.1
    have gk : nth? (List.map encS [[], [116, 101, 114, 109, 105, 110, 97, 116, 105, 110, 103], [100, 101, 97, 100, 108, 111, 99, 107, 105, 110, 103], [108, 105, 118, 101, 108, 111, 99, 107, 105, 110, 103]]) v.f_Outcome.toNat = some [.str (outT v.f_Outcome)] := by
      obtain h | h | h : v.f_Outcome = 1 ∨ v.f_Outcome = 2 ∨ v.f_Outcome = 3 := by omega
      all_goals rw [h]; rfl
    conv => lhs; whnf
    have hb20 : Try.prog.bytesOf 20 = 16 := by kernel_rfl
    have h20 : Try.prog.cellsOf 20 = 1 := by kernel_rfl
    have hst : 0 ≤ v.f_States ∧ v.f_States ≤ 100000 ∧ 0 ≤ v.f_Edges ∧ v.f_Edges ≤ 10000000 := by
      simp only [rightV, Bool.and_eq_true, decide_eq_true_eq] at hr
      have h1 := hr.1.1.1.1.1.2
      have h2 := hr.1.1.1.1.2
      omega
    have hf := fit_of (n := k) hs (by omega)
    have hsm := hs
    simp only [smallV, Bool.and_eq_true, decide_eq_true_eq, List.all_eq_true] at hsm
    obtain ⟨⟨hpl, hcl⟩, hrl⟩ := hsm
    have hlen : v.f_Results.length ≤ 8 := by
      simp only [rightV, Bool.and_eq_true, decide_eq_true_eq] at hr
      exact hr.1.1.1.2
    have hL : ∀ (s : List UInt8) (l : List It), l.length ≤ 1000 → s.length + (bodyI u m l).length ≤ 1000000000 → (∀ x ∈ l, x.good XT0 u m k) → callN Try.prog HH XT0 n 20 [.ptr 0 0, .sl 1 (l.map It.cell)] [.var 48 [.int .i64 u.mod, .sl 1 (u.init.map encI), .sl 1 (u.regs.map encI), .sl 1 (u.code.map encThr), .int .i64 m, .str s]] = some (.tup [], [.var 48 [.int .i64 u.mod, .sl 1 (u.init.map encI), .sl 1 (u.regs.map encI), .sl 1 (u.code.map encThr), .int .i64 m, .str (s ++ bodyI u m l ++ [10])]]) := fun s l h1 h2 h3 => by rw [hk]; exact line_abs u m s l k (by omega) h1 h2 h3
    have hK : ∀ (ver kk : Nat) (s : List UInt8) (l : List It), kk = l.length → l.length ≤ 1000 → s.length + (bodyI u m l).length ≤ 1000000000 → (∀ x ∈ l, x.good XT0 u m k) → callN Try.prog HH XT0 n 20 [.ptr 0 0, .stk 1 ver kk] [.var 48 [.int .i64 u.mod, .sl 1 (u.init.map encI), .sl 1 (u.regs.map encI), .sl 1 (u.code.map encThr), .int .i64 m, .str s], .stk ver 20 1 (l.map It.cell)] = some (.tup [], [.var 48 [.int .i64 u.mod, .sl 1 (u.init.map encI), .sl 1 (u.regs.map encI), .sl 1 (u.code.map encThr), .int .i64 m, .str (s ++ bodyI u m l ++ [10])], .stk ver 20 1 (l.map It.cell)]) := fun ver kk s l h0 h1 h2 h3 => by rw [hk]; exact line_stk u m s l k ver kk h0 (by omega) h1 h2 h3
    have gs : ∀ b, (It.s b).good XT0 u m k := fun b => trivial
    have gn : ∀ j : Int, 0 ≤ j → j ≤ 10000000 → (It.n j).good XT0 u m k := fun j h0 h1 => ⟨h0, by omega, by omega⟩
    have gp : ∀ l : List Int, l.length ≤ 4000 → (It.p l).good XT0 u m k := fun l h => ok0_trail_Text (text_m k u m l (by omega) (by omega))
    have hP : ∀ (w : List UInt8) (l : List Int), callN Try.prog HH XT0 n 22 [.str w, .sl 1 (l.map encI)] [] = some (.sl 1 ((pathI w l).map It.cell), []) := fun w l => by rw [hk]; exact path_abs w l k
    have gpath : ∀ (w : List UInt8) (l : List Int), l.length ≤ 4000 → ∀ x ∈ pathI w l, x.good XT0 u m k := by
      intro w l h x hx
      unfold pathI at hx
      split at hx
      · simp only [List.mem_cons, List.not_mem_nil, or_false] at hx; subst hx; exact gs w
      · simp only [List.mem_cons, List.not_mem_nil, or_false] at hx
        rcases hx with rfl | rfl
        · exact gs w
        · exact gp l h
    have l1 := hL [] [.s [111, 117, 116, 99, 111, 109, 101], .s (outT v.f_Outcome)] (by simp) (by simp [bodyI, restI, itT]; have := outT_len v.f_Outcome; omega) (by intro x hx; simp only [List.mem_cons, List.not_mem_nil, or_false] at hx; rcases hx with rfl | rfl <;> exact gs _)
    obtain ⟨s1, e1⟩ : ∃ s, s = [] ++ bodyI u m [.s [111, 117, 116, 99, 111, 109, 101], .s (outT v.f_Outcome)] ++ [10] := ⟨_, rfl⟩
    rw [← e1] at l1
    have b1 : s1.length ≤ 30 := by rw [e1]; simp [bodyI, restI, itT]; have := outT_len v.f_Outcome; omega
    have l2 := hL s1 [.s [115, 116, 97, 116, 101, 115], .n v.f_States] (by simp) (by simp [bodyI, restI, itT]; have := decL_short v.f_States 5 (by omega) (by simp; omega); omega) (by intro x hx; simp only [List.mem_cons, List.not_mem_nil, or_false] at hx; rcases hx with rfl | rfl; exact gs _; exact gn _ (by omega) (by omega))
    obtain ⟨s2, e2⟩ : ∃ s, s = s1 ++ bodyI u m [.s [115, 116, 97, 116, 101, 115], .n v.f_States] ++ [10] := ⟨_, rfl⟩
    rw [← e2] at l2
    have b2 : s2.length ≤ 60 := by rw [e2]; simp [bodyI, restI, itT]; have := decL_short v.f_States 5 (by omega) (by simp; omega); omega
    have l3 := hL s2 [.s [101, 100, 103, 101, 115], .n v.f_Edges] (by simp) (by simp [bodyI, restI, itT]; have := decL_short v.f_Edges 7 (by omega) (by simp; omega); omega) (by intro x hx; simp only [List.mem_cons, List.not_mem_nil, or_false] at hx; rcases hx with rfl | rfl; exact gs _; exact gn _ (by omega) (by omega))
    obtain ⟨s3, e3⟩ : ∃ s, s = s2 ++ bodyI u m [.s [101, 100, 103, 101, 115], .n v.f_Edges] ++ [10] := ⟨_, rfl⟩
    rw [← e3] at l3
    have b3 : s3.length ≤ 100 := by rw [e3]; simp [bodyI, restI, itT]; have := decL_short v.f_Edges 7 (by omega) (by simp; omega); omega
    have p4 := pathI_len u m [112, 114, 101, 102, 105, 120] v.f_Prefix
    have l4 := hL s3 (pathI [112, 114, 101, 102, 105, 120] v.f_Prefix) (pathI_le _ _) (by simp at p4; omega) (gpath _ _ hpl)
    obtain ⟨s4, e4⟩ : ∃ s, s = s3 ++ bodyI u m (pathI [112, 114, 101, 102, 105, 120] v.f_Prefix) ++ [10] := ⟨_, rfl⟩
    rw [← e4] at l4
    have b4 : s4.length ≤ 20000000 := by rw [e4]; simp at p4 ⊢; omega
    have p5 := pathI_len u m [99, 121, 99, 108, 101] v.f_Cycle
    have l5 := hL s4 (pathI [99, 121, 99, 108, 101] v.f_Cycle) (pathI_le _ _) (by simp at p5; omega) (gpath _ _ hcl)
    obtain ⟨s5, e5⟩ : ∃ s, s = s4 ++ bodyI u m (pathI [99, 121, 99, 108, 101] v.f_Cycle) ++ [10] := ⟨_, rfl⟩
    rw [← e5] at l5
    have b5 : s5.length ≤ 40000000 := by rw [e5]; simp at p5 ⊢; omega
    simp only [List.map_cons, List.map_nil, It.cell] at l1 l2 l3
    repeat (first | (refine wkp ?_; conv => lhs; whnf) | (refine wkn ?_; conv => lhs; whnf) | (simp only [Int.toNat_natCast, hc, hO, gk, h20, hP, l1, l2, l3, l4, l5]; conv => lhs; whnf))
    have hres : ∀ r ∈ v.f_Results, (resT u m r).length ≤ 13000000 := by
      intro r hr
      have h1 := hrl r hr
      have h2 := textU_len u m r.f_Path
      unfold resT pathT
      simp only [List.length_append, List.length_cons, List.length_nil]
      split <;> split <;> (try split) <;> simp <;> omega
    have hb : ∀ i, i ≤ v.f_Results.length → ((v.f_Results.take i).flatMap (resT u m)).length ≤ 13000000 * i := by
      intro i
      induction i with
      | zero => intro _; simp
      | succ i ih =>
        intro h
        have := ih (by omega)
        have h2 := hres v.f_Results[i] (List.getElem_mem (by omega))
        rw [List.take_add_one, List.getElem?_eq_getElem (by omega), Option.toList_some, List.flatMap_append, List.length_append, List.flatMap_singleton]
        omega
    refine rounds_ind (σ := Nat) (fun i => i ≤ v.f_Results.length) (fun i => stOf 84 [(7, .ptr 2 0), (55, .sl 3 (v.f_Results.map c_api_Result)), (56, .int .i64 ((v.f_Results.map c_api_Result).length : Nat)), (57, .int .i64 i)]) (fun i => [.var 25 [.int .i64 u.mod, .sl 1 (u.init.map encI), .sl 1 (u.regs.map encI), .sl 1 (u.code.map encThr)], .var 28 (c_api_Verdict v), .var 48 [.int .i64 u.mod, .sl 1 (u.init.map encI), .sl 1 (u.regs.map encI), .sl 1 (u.code.map encThr), .int .i64 m, .str (s5 ++ (v.f_Results.take i).flatMap (resT u m))]]) (fun i => v.f_Results.length - i) ?_ n 0 _ _ (by omega) (by omega) rfl (by simp; rfl)
    intro i q hi ih
    by_cases hlt : i < v.f_Results.length
    · have w2 := wrap_succ i (by omega)
      have gk : nth? (v.f_Results.map c_api_Result) i = some (c_api_Result v.f_Results[i]) := nth?_map' hlt rfl
      have hset : setNth [[AV.ifc 9 (.str [99, 108, 97, 105, 109])], [AV.ifc 9 (.str [102, 97, 105, 108, 115])]] (Int.toNat 1) (updL [AV.ifc 9 (.str [102, 97, 105, 108, 115])] 0 [AV.ifc 9 (.str [104, 111, 108, 100, 115])]) = [[AV.ifc 9 (.str [99, 108, 97, 105, 109])], [AV.ifc 9 (.str [104, 111, 108, 100, 115])]] := rfl
      have hpl := pathI_le2 [98, 121] v.f_Results[i].f_Path
      have hbi := hb i (by omega)
      have hbr := hres v.f_Results[i] (List.getElem_mem hlt)
      have hstep : (v.f_Results.take (i + 1)).flatMap (resT u m) = (v.f_Results.take i).flatMap (resT u m) ++ resT u m v.f_Results[i] := by
        rw [List.take_add_one, List.getElem?_eq_getElem hlt, Option.toList_some, List.flatMap_append, List.flatMap_singleton]
      have hgp := gpath [98, 121] v.f_Results[i].f_Path (hrl _ (List.getElem_mem hlt))
      have hrb := res_body u m v.f_Results[i]
      have hll : ∀ (h : List UInt8) (l : List It), (∀ x ∈ l, x.good XT0 u m k) → ∀ x ∈ [It.s [99, 108, 97, 105, 109], It.s h] ++ l, x.good XT0 u m k := by
        intro h l hl x hx
        simp only [List.cons_append, List.nil_append, List.mem_cons] at hx
        rcases hx with rfl | rfl | hx
        · exact gs _
        · exact gs _
        · exact hl x hx
      have bsk : (s5 ++ (v.f_Results.take i).flatMap (resT u m)).length ≤ 200000000 := by rw [List.length_append]; omega
      have k1 := hK 0 [[AV.ifc 9 (.str [99, 108, 97, 105, 109])], [AV.ifc 9 (.str [102, 97, 105, 108, 115])]].length (s5 ++ (v.f_Results.take i).flatMap (resT u m)) [.s [99, 108, 97, 105, 109], .s [102, 97, 105, 108, 115]] rfl (by simp) (Nat.le_trans (Nat.add_le_add bsk (show _ ≤ 100 by simp [bodyI, restI, itT])) (by decide)) (hll _ [] (by simp))
      have k2 := hK 0 [[AV.ifc 9 (.str [99, 108, 97, 105, 109])], [AV.ifc 9 (.str [102, 97, 105, 108, 115])]].length (s5 ++ (v.f_Results.take i).flatMap (resT u m)) [.s [99, 108, 97, 105, 109], .s [104, 111, 108, 100, 115]] rfl (by simp) (Nat.le_trans (Nat.add_le_add bsk (show _ ≤ 100 by simp [bodyI, restI, itT])) (by decide)) (hll _ [] (by simp))
      have hlp : (bodyI u m ([.s [99, 108, 97, 105, 109], .s [102, 97, 105, 108, 115]] ++ pathI [98, 121] v.f_Results[i].f_Path)).length ≤ 13000000 ∧ (bodyI u m ([.s [99, 108, 97, 105, 109], .s [104, 111, 108, 100, 115]] ++ pathI [98, 121] v.f_Results[i].f_Path)).length ≤ 13000000 := by
        have p6 := pathI_len u m [98, 121] v.f_Results[i].f_Path
        rw [pathI_body] at p6
        have := hrl _ (List.getElem_mem hlt)
        simp only [bodyI, List.cons_append, List.nil_append, restI, itT, pathI_rest, List.length_append, List.length_cons, List.length_nil] at p6 ⊢
        omega
      have k3 := hK (0 + 1) ([[AV.ifc 9 (.str [99, 108, 97, 105, 109])], [AV.ifc 9 (.str [102, 97, 105, 108, 115])]].length + ((pathI [98, 121] v.f_Results[i].f_Path).map It.cell).length) (s5 ++ (v.f_Results.take i).flatMap (resT u m)) ([.s [99, 108, 97, 105, 109], .s [102, 97, 105, 108, 115]] ++ pathI [98, 121] v.f_Results[i].f_Path) (by simp; omega) (by simp at hpl ⊢; omega) (by omega) (hll _ _ hgp)
      have k4 := hK (0 + 1) ([[AV.ifc 9 (.str [99, 108, 97, 105, 109])], [AV.ifc 9 (.str [104, 111, 108, 100, 115])]].length + ((pathI [98, 121] v.f_Results[i].f_Path).map It.cell).length) (s5 ++ (v.f_Results.take i).flatMap (resT u m)) ([.s [99, 108, 97, 105, 109], .s [104, 111, 108, 100, 115]] ++ pathI [98, 121] v.f_Results[i].f_Path) (by simp; omega) (by simp at hpl ⊢; omega) (by omega) (hll _ _ hgp)
      simp only [List.map_append, List.map_cons, List.map_nil, It.cell] at k1 k2 k3 k4
      conv => lhs; whnf
      repeat (first | (refine wkp ?_; conv => lhs; whnf) | (refine wkn ?_; conv => lhs; whnf) | (simp only [Int.toNat_natCast, hc, gk, h20, hP]; conv => lhs; whnf))
      refine bif_split (fun hh => ?_) (fun hh => ?_)
      · conv => lhs; whnf
        repeat (first | (refine wkp ?_; conv => lhs; whnf) | (refine wkn ?_; conv => lhs; whnf) | (simp only [Int.toNat_natCast, hc, gk, h20, hP]; conv => lhs; whnf))
        refine bif_split (fun hq => ?_) (fun hq => ?_)
        · conv => lhs; whnf
          repeat (first | (refine wkp ?_; conv => lhs; whnf) | (refine wkn ?_; conv => lhs; whnf) | (simp only [Int.toNat_natCast, hc, gk, h20, hP, hset, hb20]; conv => lhs; whnf))
          refine bif_pos (by simp; omega) ?_
          conv => lhs; whnf
          repeat (first | (refine wkp ?_; conv => lhs; whnf) | (refine wkn ?_; conv => lhs; whnf) | (simp only [Int.toNat_natCast, hc, gk, h20, hP, hset, hb20, k4]; conv => lhs; whnf))
          refine ih (i + 1) _ _ (by omega) (by omega) ?_ ?_
          · rw [w2]; rfl
          · rw [hstep, hrb, if_pos hh, if_pos hq, ← List.append_assoc, ← List.append_assoc]; rfl
        · conv => lhs; whnf
          repeat (first | (refine wkp ?_; conv => lhs; whnf) | (refine wkn ?_; conv => lhs; whnf) | (simp only [Int.toNat_natCast, hc, gk, h20, hP, hset, hb20, k2]; conv => lhs; whnf))
          refine ih (i + 1) _ _ (by omega) (by omega) ?_ ?_
          · rw [w2]; rfl
          · rw [hstep, hrb, if_pos hh, if_neg (by rw [hq]; decide), ← List.append_assoc, ← List.append_assoc]; rfl
      · conv => lhs; whnf
        repeat (first | (refine wkp ?_; conv => lhs; whnf) | (refine wkn ?_; conv => lhs; whnf) | (simp only [Int.toNat_natCast, hc, gk, h20, hP]; conv => lhs; whnf))
        refine bif_split (fun hq => ?_) (fun hq => ?_)
        · conv => lhs; whnf
          repeat (first | (refine wkp ?_; conv => lhs; whnf) | (refine wkn ?_; conv => lhs; whnf) | (simp only [Int.toNat_natCast, hc, gk, h20, hP, hset, hb20]; conv => lhs; whnf))
          refine bif_pos (by simp; omega) ?_
          conv => lhs; whnf
          repeat (first | (refine wkp ?_; conv => lhs; whnf) | (refine wkn ?_; conv => lhs; whnf) | (simp only [Int.toNat_natCast, hc, gk, h20, hP, hset, hb20, k3]; conv => lhs; whnf))
          refine ih (i + 1) _ _ (by omega) (by omega) ?_ ?_
          · rw [w2]; rfl
          · rw [hstep, hrb, if_neg (by rw [hh]; decide), if_pos hq, ← List.append_assoc, ← List.append_assoc]; rfl
        · conv => lhs; whnf
          repeat (first | (refine wkp ?_; conv => lhs; whnf) | (refine wkn ?_; conv => lhs; whnf) | (simp only [Int.toNat_natCast, hc, gk, h20, hP, hset, hb20, k1]; conv => lhs; whnf))
          refine ih (i + 1) _ _ (by omega) (by omega) ?_ ?_
          · rw [w2]; rfl
          · rw [hstep, hrb, if_neg (by rw [hh]; decide), if_neg (by rw [hq]; decide), ← List.append_assoc, ← List.append_assoc]; rfl
    · conv => lhs; whnf
      repeat (first | (refine wkp ?_; conv => lhs; whnf) | (refine wkn ?_; conv => lhs; whnf) | (simp only [Int.toNat_natCast, hc]; conv => lhs; whnf))
      refine some_pair (congrArg AV.str ?_) rfl
      rw [List.take_of_length_le (by omega), showT, hr, if_pos rfl]
      congr 1
      rw [e5, e4, e3, e2, e1]
      simp only [pathI_body]
      simp [headT, bodyI, restI, itT]
end Go.Proofs.Ytmaklniljnbokaa
end

section
namespace Go.Proofs.Ytmaklniljnbokaa
open Go.RowKit
set_option linter.unusedVariables false
set_option linter.unusedSimpArgs false
set_option maxRecDepth 100000

theorem call_rep0 {g : FuncId} {args : List AV} {res : AV} {n : Nat} (h : callN Try.prog HH XT0 n g args [] = some (res, [])) {w : World} {vs : List Value} (hr : Reps (SAll w) w [] [] args vs) : Calls Try.prog g vs.toArray w fun e w' => ∃ u S', e = .returned u ∧ Below w.heap.size w w' ∧ Rep S' w' [] [] res u := by
  refine (cN_sound XT0_sound n false g args [] _ _ h w.heap.size (SAll w) w [] vs (sim_all w) hr).mono ?_
  rintro e w' ⟨u, S', φ', rfl, hu, hs', ht⟩
  have hφ : φ' = [] := List.eq_nil_of_length_eq_zero hs'.len
  subst hφ
  exact ⟨u, S', rfl, ht.below, hu⟩
theorem show_K : SoundK Try.prog 10 (funK encShow fun p => .str (showT p.1.1 p.1.2.1 p.1.2.2)) := by
  refine sound_fun fun ⟨(u, m, v), hs⟩ vs w hr => ?_
  refine (call_rep0 (n := 1000000002) (show_abs u m v 1000000001 (by omega) hs) hr).mono ?_
  rintro e w' ⟨r, S', rfl, hb, h3⟩
  obtain ⟨rfl, hl⟩ := h3.str_inv
  exact ⟨_, rfl, hb, fun S => .str _ _ _ hl⟩
theorem extT_sound : ∀ p ∈ extT, SoundK Try.prog p.1 p.2 := by
  unfold extT
  exact List.forall_mem_cons.2 ⟨show_K, ext0_sound⟩
theorem XT_sound : SoundExt Try.prog XT := sound_extOf extT_sound
end Go.Proofs.Ytmaklniljnbokaa
end

