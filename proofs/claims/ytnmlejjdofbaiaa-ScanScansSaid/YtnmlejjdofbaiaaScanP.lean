/- Parts of the proofs of the laws of layer 1, scan (text ScanP). Conditions: none. -/
import Derived.Test.YtnmlejjdofbaiaaScanO
import Derived.Test.YtnmlejjdofbaiaaScanC
import Derived.Test.YtnmlejjdofbaiaaPlainLex2
import Derived.Deep.RegionWith
namespace Go.Proofs.Ytnmlejjdofbaiaa
open Go.RowKit

theorem cf_line (args : Array Value) (w : World) : (callFunc 19 args).run Try.prog w = .ok (.enter 19 args) w := by simp [go_sem]
theorem cf_word (args : Array Value) (w : World) : (callFunc 21 args).run Try.prog w = .ok (.enter 21 args) w := by simp [go_sem]
theorem cf_digit (args : Array Value) (w : World) : (callFunc 22 args).run Try.prog w = .ok (.enter 22 args) w := by simp [go_sem]

theorem rest_data (s : ByteArray) (k : Nat) : (s.extract k s.size).data.toList = s.data.toList.drop k := by
  rw [Lib.extract_data, List.take_of_length_le (by rw [List.length_drop, len_toList]; exact Nat.le_refl _)]

theorem rest_head {s r : ByteArray} {k : Nat} (h : r.data.toList = s.data.toList.drop k) (hr : 0 < r.size) : s.data.toList.drop k = r[0] :: s.data.toList.drop (k + 1) := by
  have := drop_at r 0 hr
  simp only [List.drop_zero] at this
  rw [h, List.drop_drop] at this
  exact this

theorem mem_takeWhile_p {α : Type} (q : α → Bool) (l : List α) (x : α) (h : x ∈ l.takeWhile q) : q x = true := by
  induction l with
  | nil => simp at h
  | cons a t ih =>
    rw [List.takeWhile_cons] at h
    split at h
    · rcases List.mem_cons.1 h with rfl | h
      · assumption
      · exact ih h
    · simp at h

/-- The call's own variable, a call or two later. -/
theorem tok_var {wr w1 W w2 : World} {E : TypeId} {p : Int} {A : Obj} (hA : A = .cells #[.int .i64 0, .string ⟨#[]⟩, .int .i64 0, .int .i64 p] E) (hb1 : Below (wr.alloc A).heap.size (wr.alloc A) w1) (hW : Below w1.heap.size w1 W ∧ W.heap = w1.heap) (hb2 : Below W.heap.size W w2) :
    w2.cell? ⟨wr.heap.size, 0, none⟩ = some (.int .i64 0) ∧ w2.cell? ⟨wr.heap.size, 1, none⟩ = some (.string ⟨#[]⟩) ∧ w2.cell? ⟨wr.heap.size, 2, none⟩ = some (.int .i64 0) ∧ w2.cell? ⟨wr.heap.size, 3, none⟩ = some (.int .i64 p) ∧
    w2.frozen? ⟨wr.heap.size, 0, none⟩ = false ∧ w2.frozen? ⟨wr.heap.size, 1, none⟩ = false ∧ w2.frozen? ⟨wr.heap.size, 2, none⟩ = false ∧ Below (wr.alloc A).heap.size (wr.alloc A) w2 ∧ w1.heap.size ≤ w2.heap.size := by
  have hb : Below (wr.alloc A).heap.size (wr.alloc A) w2 := by
    have h1 := hb1.size
    exact hb1.trans ((hW.1.mono h1).trans (hb2.mono (by rw [hW.2]; exact h1)))
  obtain ⟨hbc, hbf⟩ := bcell hb
  refine ⟨?_, ?_, ?_, ?_, ?_, ?_, ?_, hb, ?_⟩
  · rw [hbc _ _ (by simp), hA]; simp [go_sem]
  · rw [hbc _ _ (by simp), hA]; simp [go_sem]
  · rw [hbc _ _ (by simp), hA]; simp [go_sem]
  · rw [hbc _ _ (by simp), hA]; simp [go_sem]
  · rw [hbf _ _ (by simp), hA]; simp [go_sem]
  · rw [hbf _ _ (by simp), hA]; simp [go_sem]
  · rw [hbf _ _ (by simp), hA]; simp [go_sem]
  · have := hb2.size; rw [hW.2] at this; exact this

/-- What the call's own variable holds behind the stores of a token's kind and text; all else is as it was. -/
theorem tok_stored {w wr w1 w3 : World} {acc : List Tok} {v : Value} {E : TypeId} {kd p n : Int} {x : ByteArray} {tx : List UInt8} {A : Obj}
    (hA : A = .cells #[.int .i64 0, .string ⟨#[]⟩, .int .i64 0, .int .i64 p] E) (hown : wr.ownsRow w.heap.size E 4 v acc.length (tokCells acc)) (hb : Below w.heap.size w wr) (hb1 : Below (wr.alloc A).heap.size (wr.alloc A) w1) (hx : x = bs tx)
    (h3 : w3 = ((w1.setCell ⟨wr.heap.size, 0, none⟩ (.int .i64 kd)).setCell ⟨wr.heap.size, 1, none⟩ (.string x)).drew ∧ n = 0 ∨
      w3 = (((w1.setCell ⟨wr.heap.size, 0, none⟩ (.int .i64 kd)).setCell ⟨wr.heap.size, 1, none⟩ (.string x)).setCell ⟨wr.heap.size, 2, none⟩ (.int .i64 n))) :
    w3.ownsRow w.heap.size E 4 v acc.length (tokCells acc) ∧ Below w.heap.size w w3 ∧ (w3.cell? ⟨wr.heap.size, 0, none⟩ = some (.int .i64 kd) ∧ w3.cell? ⟨wr.heap.size, 1, none⟩ = some (.string (bs tx)) ∧ w3.cell? ⟨wr.heap.size, 2, none⟩ = some (.int .i64 n) ∧ w3.cell? ⟨wr.heap.size, 3, none⟩ = some (.int .i64 p)) ∧
    wr.heap.size < w3.heap.size ∧ w3.heap.size = w1.heap.size ∧ v.ownBlock ≠ some wr.heap.size := by
  subst hx
  have hz := hb.size
  have hz1 := hb1.size
  simp only [World.size_alloc] at hz1
  have hlt := hown.lt
  have hne : v.ownBlock ≠ some wr.heap.size := fun e => by have := hlt _ e; omega
  have hbc := (bcell hb1).1
  have q0 : w1.cell? ⟨wr.heap.size, 0, none⟩ = some (.int .i64 0) := by rw [hbc _ _ (by simp), hA]; simp [go_sem]
  have q1 : w1.cell? ⟨wr.heap.size, 1, none⟩ = some (.string ⟨#[]⟩) := by rw [hbc _ _ (by simp), hA]; simp [go_sem]
  have q2 : w1.cell? ⟨wr.heap.size, 2, none⟩ = some (.int .i64 0) := by rw [hbc _ _ (by simp), hA]; simp [go_sem]
  have q3 : w1.cell? ⟨wr.heap.size, 3, none⟩ = some (.int .i64 p) := by rw [hbc _ _ (by simp), hA]; simp [go_sem]
  have ho1 := owns_below (hown.alloc A) hb1
  have hbw : Below w.heap.size w w1 := (hb.alloc hz A).trans (hb1.mono (by simp; omega))
  rcases h3 with ⟨rfl, rfl⟩ | rfl
  · refine ⟨(ownsRow_setCell_other (ownsRow_setCell_other ho1 hne _) hne _).drew, ((hbw.setCell hz _).setCell hz _).drew, ⟨?_, ?_, ?_, ?_⟩, by simp; omega, by simp, hne⟩
    all_goals simp [go_sem, q0, q1, q2, q3]
  · refine ⟨(ownsRow_setCell_other (ownsRow_setCell_other (ownsRow_setCell_other ho1 hne _) hne _) hne _), (((hbw.setCell hz _).setCell hz _).setCell hz _), ⟨?_, ?_, ?_, ?_⟩, by simp; omega, by simp, hne⟩
    all_goals simp [go_sem, q0, q1, q2, q3]

theorem tok_laid {w wr w3 : World} {acc : List Tok} {v : Value} {E : TypeId} {kd p n : Int} {x : ByteArray} {tx : List UInt8}
    (hown : wr.ownsRow w.heap.size E 4 v acc.length (tokCells acc)) (hb : Below w.heap.size w wr) (hx : x = bs tx)
    (h3 : w3 = (wr.alloc (.cells #[.int .i64 kd, .string x, .int .i64 n, .int .i64 p] E)).drew) :
    w3.ownsRow w.heap.size E 4 v acc.length (tokCells acc) ∧ Below w.heap.size w w3 ∧ (w3.cell? ⟨wr.heap.size, 0, none⟩ = some (.int .i64 kd) ∧ w3.cell? ⟨wr.heap.size, 1, none⟩ = some (.string (bs tx)) ∧ w3.cell? ⟨wr.heap.size, 2, none⟩ = some (.int .i64 n) ∧ w3.cell? ⟨wr.heap.size, 3, none⟩ = some (.int .i64 p)) ∧
    wr.heap.size < w3.heap.size ∧ w3.heap.size = wr.heap.size + 1 ∧ v.ownBlock ≠ some wr.heap.size := by
  subst hx
  have hlt := hown.lt
  have hne : v.ownBlock ≠ some wr.heap.size := fun e => by have := hlt _ e; omega
  subst h3
  refine ⟨(hown.alloc _).drew, (hb.alloc hb.size _).drew, ⟨?_, ?_, ?_, ?_⟩, by simp, by simp, hne⟩
  all_goals simp [go_sem]

/-- Behind the append: the row has one more. -/
theorem tok_pushed {w w3 w4 : World} {acc : List Tok} {v v' : Value} {t : Tok} {E : TypeId} {A : Obj} {tb : Nat}
    (hown : w3.ownsRow w.heap.size E 4 v acc.length (tokCells acc)) (hb : Below w.heap.size w w3) (hne : v.ownBlock ≠ some tb) (htb : tb < w3.heap.size) (hc : w3.cell? ⟨tb, 1, none⟩ = some (.string (bs t.text)))
    (h2 : w4.ownsRow w.heap.size E 4 v' (acc.length + 1) (tokCells acc ++ t.cells)) (hg : (w3.alloc A).grownBy w4 v.ownBlock) :
    w4.ownsRow w.heap.size E 4 v' (acc ++ [t]).length (tokCells (acc ++ [t])) ∧ Below w.heap.size w w4 ∧ w4.cell? ⟨tb, 1, none⟩ = some (.string (bs t.text)) := by
  have hz := hb.size
  refine ⟨by rw [tokCells_snoc, List.length_append]; exact h2, Below.grown (hb.alloc hz A) hg (by simp; omega) (fun j hj => (hown.lt j hj).1), ?_⟩
  refine hg.cell ?_ (fun e => hne e.symm)
  rw [Below.cell (w := w3) ((Below.refl _ _).alloc (Nat.le_refl _) A) htb]
  exact hc

set_option maxRecDepth 100000 in
set_option maxHeartbeats 8000000 in
theorem scan_any (s : ByteArray) (w : World) :
    Calls Try.prog 9 #[.string s] w (ScanPost s w) := by
  by_cases hlong : 20000 < s.size
  · have HL := Lib.hid (scan_long hlong)
    go_enter Try.func9, Try.ntmps9
    go_wp2
    go_step3
    go_wp2
    rw [Exit.noGoto_ret]
    go_ret3
    exact scan_post HL.out (World.ownsRow_nil _ _ _ _) (Below.refl _ _)
  · have hs : s.size ≤ 20000 := by omega
    have HL := Lib.hid (scan_short hs)
    obtain ⟨i0, hi, hi0, hi1, hi2⟩ := info_parts info_tok
    go_enter Try.func9, Try.ntmps9
    go_wp2
    go_step3
    go_wp2
    go_step3
    go_wp2
    go_loopw [5, 6] (fun v i wr => ∃ (k : Nat) (acc : List Tok), i = .int .i64 k ∧ k ≤ s.size ∧ acc.length ≤ k ∧ lexAt s.data.toList 0 [] = lexAt s.data.toList k acc ∧
        wr.ownsRow w.heap.size 29 4 v acc.length (tokCells acc) ∧ Below w.heap.size w wr) (fun _ i _ => s.size - (intOf i).toNat)
    case atStart => exact ⟨0, [], rfl, by omega, by simp, rfl, World.ownsRow_nil _ _ _ _, Below.refl _ _⟩
    case round =>
      obtain ⟨k, acc, rfl, hk, hacc, hlex, hown, hb⟩ := hrel
      have HX := Lib.hid hlex; have HB := Lib.hid hb; have HO := Lib.hid hown
      have hbs := hb.size
      clear hlex hb hown
      by_cases hlt : k < s.size
      · obtain ⟨r, hr⟩ : ∃ r, s.extract k s.size = r := ⟨_, rfl⟩
        have hrd : r.data.toList = s.data.toList.drop k := by rw [← hr]; exact rest_data s k
        have hrs : r.size = s.size - k := by rw [← len_toList, hrd, List.length_drop, len_toList]
        have hr1 : 0 < r.size := by omega
        have hr2 : r.size ≤ 20000 := by omega
        have hr3 : r.size + k ≤ s.size := by omega
        have hrc : s.data.toList.drop k = r[0] :: s.data.toList.drop (k + 1) := rest_head hrd hr1
        have HRD := Lib.hid hrd; have HRS := Lib.hid hrs; have HRC := Lib.hid hrc
        clear hrd hrs hrc
        have hby := r[0].toNat_lt
        by_cases hbl : blankB r[0].toNat = true
        · have HG := Lib.hid (gapS_blank (t := s.data.toList.drop (k + 1)) hbl)
          have HE := Lib.hid (lexAt_gap s.data.toList k acc 1 (by rw [len_toList]; omega) (by rw [HRC.out]; exact HG.out))
          by_cases c1 : r[0].toNat = 32
          · have d1 : ((r[0].toNat : Int) == 32) = true := byte_is (n := 32) c1
            clear hbl c1
            go_wp2
            go_roundw
            case rel => exact ⟨k + 1, acc, by go_num, by omega, by omega, by rw [HX.out, HE.out], HO.out.alloc _, HB.out.alloc (by omega) _⟩
            case measure => simp [intOf]; omega
          · have d1 : ((r[0].toNat : Int) == 32) = false := byte_isnt (n := 32) c1
            by_cases c2 : r[0].toNat = 9
            · have d2 : ((r[0].toNat : Int) == 9) = true := byte_is (n := 9) c2
              clear hbl c1 c2
              go_wp2
              go_roundw
              case rel => exact ⟨k + 1, acc, by go_num, by omega, by omega, by rw [HX.out, HE.out], HO.out.alloc _, HB.out.alloc (by omega) _⟩
              case measure => simp [intOf]; omega
            · have d2 : ((r[0].toNat : Int) == 9) = false := byte_isnt (n := 9) c2
              by_cases c3 : r[0].toNat = 10
              · have d3 : ((r[0].toNat : Int) == 10) = true := byte_is (n := 10) c3
                clear hbl c1 c2 c3
                go_wp2
                go_roundw
                case rel => exact ⟨k + 1, acc, by go_num, by omega, by omega, by rw [HX.out, HE.out], HO.out.alloc _, HB.out.alloc (by omega) _⟩
                case measure => simp [intOf]; omega
              · have d3 : ((r[0].toNat : Int) == 10) = false := byte_isnt (n := 10) c3
                have d4 : ((r[0].toNat : Int) == 13) = true := byte_is (n := 13) (by simp only [blankB, decide_eq_true_eq] at hbl; omega)
                clear hbl c1 c2 c3
                go_wp2
                go_roundw
                case rel => exact ⟨k + 1, acc, by go_num, by omega, by omega, by rw [HX.out, HE.out], HO.out.alloc _, HB.out.alloc (by omega) _⟩
                case measure => simp [intOf]; omega
        · have hbl' : blankB r[0].toNat = false := by simpa using hbl
          clear hbl
          have h1' : ¬ (r[0].toNat = 32 ∨ r[0].toNat = 9 ∨ r[0].toNat = 10 ∨ r[0].toNat = 13) := by
            simp only [blankB, decide_eq_false_iff_not] at hbl'; omega
          have d1 : ((r[0].toNat : Int) == 32) = false := byte_isnt (n := 32) (by omega)
          have d2 : ((r[0].toNat : Int) == 9) = false := byte_isnt (n := 9) (by omega)
          have d3 : ((r[0].toNat : Int) == 10) = false := byte_isnt (n := 10) (by omega)
          have d4 : ((r[0].toNat : Int) == 13) = false := byte_isnt (n := 13) (by omega)
          have HBL := Lib.hid hbl'
          clear h1' hbl'
          by_cases c5 : r[0].toNat = 35
          · have d5 : ((r[0].toNat : Int) == 35) = true := byte_is (n := 35) c5
            have hg := gapS_remark (t := s.data.toList.drop (k + 1)) c5
            have hrl := runLen_le lineB r.data.toList
            rw [len_toList] at hrl
            rw [← HRC.out, ← HRD.out] at hg
            have hrp : 0 < runLen lineB r.data.toList := by
              rw [HRD.out, HRC.out, runLen_cons, if_pos (by simp [lineB, c5])]; omega
            have HE := Lib.hid (lexAt_gap s.data.toList k acc (runLen lineB r.data.toList) (by rw [len_toList]; omega) (by rw [← HRD.out, hg, HRD.out, List.drop_drop]))
            clear c5 hg
            go_wp2_with fail
            refine (run_any r 19 lineB _ (by omega) cf_line line_any (fun c hc => by rw [lineB_high hc, lineB_high (by omega)])).mono ?_
            rintro e w1 ⟨rfl, hb1⟩
            have hb2 := (((HB.out.alloc hbs _).trans (hb1.mono (by simp; omega))))
            have ho2 := owns_below (HO.out.alloc _) hb1
            clear hb1
            go_wp2
            go_roundw
            case rel => exact ⟨k + runLen lineB r.data.toList, acc, by go_num, by omega, by omega, by rw [HX.out, HE.out], ho2, hb2⟩
            case measure => simp [intOf]; omega
          · have d5 : ((r[0].toNat : Int) == 35) = false := byte_isnt (n := 35) c5
            have HG := Lib.hid (gapS_none (t := s.data.toList.drop (k + 1)) HBL.out c5)
            clear c5
            by_cases hl : letterB r[0].toNat = true
            · have ho : oneL (s.data.toList.drop k) = if runLen wordB (s.data.toList.drop k) > 16 then .err 2 else .tok 1 (runLen wordB (s.data.toList.drop k)) 0 := by
                conv => lhs; rw [HRC.out]
                simp only [oneL, hl, if_true]
                rw [← HRC.out]
              rw [← HRD.out] at ho
              have hrl := runLen_le wordB r.data.toList
              rw [len_toList] at hrl
              have HO1 := Lib.hid ho; clear ho
              by_cases h16 : 16 < runLen wordB r.data.toList
              · have HE := Lib.hid (lexAt_err s.data.toList k acc 2 (by rw [HRC.out]; exact HG.out) (by rw [len_toList]; exact hlt) (by rw [← HRD.out, HO1.out, if_pos h16]))
                go_wp2_with fail
                refine (letter_any _ _).mono ?_
                rintro e w1 ⟨rfl, rfl⟩
                go_wp2_with fail
                refine (run_any r 21 wordB _ (by omega) cf_word word_any (fun c hc => by rw [wordB_high hc, wordB_high (by omega)])).mono ?_
                rintro e w1 ⟨rfl, hb1⟩
                have hb2 := (((HB.out.alloc hbs _).trans (hb1.mono (by simp; omega))))
                clear hb1
                go_wp2
                rw [Exit.noGoto_ret]
                go_ret3
                exact scan_post (r := ⟨[], 2, k⟩) (by rw [HL.out, HX.out, HE.out]) (World.ownsRow_nil _ _ _ _) hb2
              · have hn0 : 0 < runLen wordB r.data.toList := by
                  rw [HRD.out, HRC.out, runLen_cons, if_pos (by simp [wordB, hl])]; omega
                have HE := Lib.hid (lexAt_tok s.data.toList k acc 1 (runLen wordB r.data.toList) 0 (by rw [HRC.out]; exact HG.out) (by rw [len_toList]; exact hlt) (by rw [← HRD.out, HO1.out, if_neg h16]))
                go_wp2_with fail
                refine (letter_any _ _).mono ?_
                rintro e w1 ⟨rfl, rfl⟩
                go_wp2_with fail
                refine (run_any r 21 wordB _ (by omega) cf_word word_any (fun c hc => by rw [wordB_high hc, wordB_high (by omega)])).mono ?_
                rintro e w1 ⟨rfl, hb1⟩
                obtain ⟨hbc, hbf⟩ := bcell hb1
                have hz := hb1.size
                simp only [World.size_alloc] at hz
                have HB1 := Lib.hid hb1
                clear hb1
                go_wp2_with fail
                go_region
                obtain ⟨tx, htx⟩ : ∃ tx, tx = (s.data.toList.drop k).take (runLen wordB r.data.toList) := ⟨_, rfl⟩
                have hxt : r.extract 0 (runLen wordB r.data.toList) = bs tx := by rw [extract_bs, htx, ← HRD.out]; rfl
                have htl : tx.length = runLen wordB r.data.toList := by rw [htx, List.length_take, List.length_drop, len_toList]; omega
                have HTL := Lib.hid htl
                obtain ⟨w3, hw3⟩ : ∃ w3, w3 = ((w1.setCell ⟨wr.heap.size, 0, none⟩ (.int .i64 1)).setCell ⟨wr.heap.size, 1, none⟩ (.string (r.extract 0 (runLen wordB r.data.toList)))).drew := ⟨_, rfl⟩
                have T := tok_stored (kd := 1) (n := 0) rfl HO.out HB.out HB1.out hxt (.inl ⟨hw3, rfl⟩)
                rw [← hw3]
                rw [← htx] at HE
                clear hw3 hxt htl htx hbc hbf
                obtain ⟨t1, t2, ⟨p0, p1, p2, p3⟩, t3, t4, t5⟩ := T
                have hz3 := t2.size
                have T1 := Lib.hid t1; have T2 := Lib.hid t2; have T4 := Lib.hid t4; have T5 := Lib.hid t5
                have HOA := Lib.hid (t1.alloc (.cells #[.int .i64 1, .string (bs tx), .int .i64 0, .int .i64 k] 29))
                clear t1 t2 t4 t5
                go_wp2_with (at_builtin; refine wpList_append_own _ rfl _ _ 23 rfl w.heap.size 29 i0 _ 4 40 Try.underlying23 hi hi0 hi1 hi2 rfl (by decide) _ _ _ rfl HOA.out ⟨w3.heap.size, 0, none⟩ 1 1 (Tok.cells ⟨1, tx, 0, k⟩) rfl rfl ?a1 ?a2 ?a3 ?a4 ?a5 ?_)
                case a1 => exact fun j u hj => cells_one_tok w3 ⟨1, tx, 0, k⟩ 29 j u hj
                case a2 => intro u hu; simp [Tok.cells] at hu; rcases hu with rfl | rfl | rfl | rfl <;> rfl
                case a3 => unfold maxLen; omega
                case a4 => omega
                case a5 => simp; omega
                intro v' w4 hown4 hgrow _
                have R := tok_pushed (t := ⟨1, tx, 0, k⟩) T1.out T2.out T5.out t3 p1 hown4 hgrow
                clear hown4 hgrow p0 p1 p2 p3
                obtain ⟨R1, R2, R3⟩ := R
                have HR1 := Lib.hid R1; have HR2 := Lib.hid R2; clear R1 R2
                have htl2 : tx.length ≤ r.size := by rw [HTL.out]; omega
                have htl3 : 0 < tx.length := by rw [HTL.out]; omega
                go_wp2
                go_roundw
                case rel =>
                  refine ⟨k + tx.length, acc ++ [⟨1, tx, 0, k⟩], by go_num, by omega, ?_, ?_, HR1.out, HR2.out⟩
                  · rw [List.length_append, List.length_singleton]; omega
                  · rw [HX.out, HE.out, HTL.out]; rfl
                case measure => simp [intOf]; omega
            · have hl' : letterB r[0].toNat = false := by simpa using hl
              clear hl
              by_cases hd : digitB r[0].toNat = true
              · have ho : oneL (s.data.toList.drop k) = if valueL ((s.data.toList.drop k).take (runLen digitB (s.data.toList.drop k))) > 9999 then .err 4 else .tok 2 (runLen digitB (s.data.toList.drop k)) (valueL ((s.data.toList.drop k).take (runLen digitB (s.data.toList.drop k)))) := by
                  conv => lhs; rw [HRC.out]
                  simp only [oneL, hl', hd, if_true, if_false, Bool.false_eq_true]
                  rw [← HRC.out]
                rw [← HRD.out] at ho
                have hrl := runLen_le digitB r.data.toList
                rw [len_toList] at hrl
                have hn0 : 0 < runLen digitB r.data.toList := by
                  rw [HRD.out, HRC.out, runLen_cons, if_pos hd]; omega
                have HO1 := Lib.hid ho; clear ho
                have hxe : r.extract 0 (runLen digitB r.data.toList) = bs (r.data.toList.take (runLen digitB r.data.toList)) := by rw [extract_bs]; rfl
                have hxd : ∀ j (hj : j < (r.extract 0 (runLen digitB r.data.toList)).size), digitB ((r.extract 0 (runLen digitB r.data.toList))[j]).toNat = true := fun j hj => by
                  have e : (r.extract 0 (runLen digitB r.data.toList)).data.toList = r.data.toList.takeWhile fun c => digitB c.toNat := by
                    rw [hxe]
                    show r.data.toList.take _ = _
                    unfold runLen
                    exact (List.prefix_iff_eq_take.1 (List.takeWhile_prefix _)).symm
                  have hm : ((r.extract 0 (runLen digitB r.data.toList))[j]) ∈ (r.data.toList.takeWhile fun c => digitB c.toNat) := by
                    rw [← e]
                    exact List.getElem_mem (l := (r.extract 0 (runLen digitB r.data.toList)).data.toList) (by rw [len_toList]; exact hj)
                  exact mem_takeWhile_p (fun c : UInt8 => digitB c.toNat) _ _ hm
                have hxv : valueL (r.extract 0 (runLen digitB r.data.toList)).data.toList = valueL (r.data.toList.take (runLen digitB r.data.toList)) := by rw [hxe]
                have HXD := Lib.hid hxd; have HXV := Lib.hid hxv
                clear hxe hxd hxv
                obtain ⟨vn, hvn⟩ : ∃ vn, valueL (r.data.toList.take (runLen digitB r.data.toList)) = vn := ⟨_, rfl⟩
                have hvl := valueL_le (r.data.toList.take (runLen digitB r.data.toList))
                rw [hvn] at HO1 hvl
                go_wp2_with fail
                refine (letter_any _ _).mono ?_
                rintro e w1 ⟨rfl, rfl⟩
                go_wp2_with fail
                refine (digit_any _ _).mono ?_
                rintro e w1 ⟨rfl, rfl⟩
                go_wp2_with fail
                refine (run_any r 22 digitB _ (by omega) cf_digit digit_any (fun c hc => by rw [digitB_high hc, digitB_high (by omega)])).mono ?_
                rintro e w1 ⟨rfl, hb1⟩
                have hz := hb1.size
                simp only [World.size_alloc] at hz
                have HB1 := Lib.hid hb1
                clear hb1
                go_wp2_with fail
                go_region_with (go_at_call 23; refine (value_any _ _ (by simp; omega) HXD.out).mono ?_; rintro e w2 ⟨rfl, hb2⟩; obtain ⟨q0, q1, q2, q3, f0, f1, f2, hb3, hz2⟩ := tok_var rfl HB1.out ⟨(Below.refl _ _).drew, rfl⟩ hb2; have HB3 := Lib.hid hb3; clear hb2 hb3)
                obtain ⟨tx, htx⟩ : ∃ tx, tx = (s.data.toList.drop k).take (runLen digitB r.data.toList) := ⟨_, rfl⟩
                have hxt : r.extract 0 (runLen digitB r.data.toList) = bs tx := by rw [extract_bs, htx, ← HRD.out]; rfl
                have htl : tx.length = runLen digitB r.data.toList := by rw [htx, List.length_take, List.length_drop, len_toList]; omega
                have HTL := Lib.hid htl
                obtain ⟨w3, hw3⟩ : ∃ w3, w3 = ((w2.setCell ⟨wr.heap.size, 0, none⟩ (.int .i64 2)).setCell ⟨wr.heap.size, 1, none⟩ (.string (r.extract 0 (runLen digitB r.data.toList)))).setCell ⟨wr.heap.size, 2, none⟩ (.int .i64 vn) := ⟨_, rfl⟩
                have T := tok_stored (kd := 2) (n := vn) rfl HO.out HB.out HB3.out hxt (.inr hw3)
                rw [← hw3]
                clear hw3
                obtain ⟨t1, t2, ⟨p0, p1, p2, p3⟩, t3, t4, t5⟩ := T
                have hz3 := t2.size
                have T1 := Lib.hid t1; have T2 := Lib.hid t2; have T4 := Lib.hid t4; have T5 := Lib.hid t5
                have HOA := Lib.hid (t1.alloc (.cells #[.int .i64 2, .string (bs tx), .int .i64 vn, .int .i64 k] 29))
                clear t1 t2 t4 t5
                clear q0 q1 q2 q3 f0 f1 f2 hvn
                by_cases h9 : 9999 < vn
                · have HE := Lib.hid (lexAt_err s.data.toList k acc 4 (by rw [HRC.out]; exact HG.out) (by rw [len_toList]; exact hlt) (by rw [← HRD.out, HO1.out, if_pos h9]))
                  go_wp2
                  rw [Exit.noGoto_ret]
                  go_ret3
                  exact scan_post (r := ⟨[], 4, k⟩) (by rw [HL.out, HX.out, HE.out]) (World.ownsRow_nil _ _ _ _) T2.out
                · have HE := Lib.hid (lexAt_tok s.data.toList k acc 2 (runLen digitB r.data.toList) vn (by rw [HRC.out]; exact HG.out) (by rw [len_toList]; exact hlt) (by rw [← HRD.out, HO1.out, if_neg h9]))
                  rw [← htx] at HE
                  clear hxt htl htx
                  go_wp2_with (at_builtin; refine wpList_append_own _ rfl _ _ 23 rfl w.heap.size 29 i0 _ 4 40 Try.underlying23 hi hi0 hi1 hi2 rfl (by decide) _ _ _ rfl HOA.out ⟨w3.heap.size, 0, none⟩ 1 1 (Tok.cells ⟨2, tx, vn, k⟩) rfl rfl ?b1 ?b2 ?b3 ?b4 ?b5 ?_)
                  case b1 => exact fun j u hj => cells_one_tok w3 ⟨2, tx, vn, k⟩ 29 j u hj
                  case b2 => intro u hu; simp [Tok.cells] at hu; rcases hu with rfl | rfl | rfl | rfl <;> rfl
                  case b3 => unfold maxLen; omega
                  case b4 => omega
                  case b5 => simp; omega
                  intro v' w4 hown4 hgrow _
                  have R := tok_pushed (t := ⟨2, tx, vn, k⟩) T1.out T2.out T5.out t3 p1 hown4 hgrow
                  clear hown4 hgrow p0 p1 p2 p3
                  obtain ⟨R1, R2, R3⟩ := R
                  have HR1 := Lib.hid R1; have HR2 := Lib.hid R2; clear R1 R2
                  have htl2 : tx.length ≤ r.size := by rw [HTL.out]; omega
                  have htl3 : 0 < tx.length := by rw [HTL.out]; omega
                  go_wp2
                  go_roundw
                  case rel =>
                    refine ⟨k + tx.length, acc ++ [⟨2, tx, vn, k⟩], by go_num, by omega, ?_, ?_, HR1.out, HR2.out⟩
                    · rw [List.length_append, List.length_singleton]; omega
                    · rw [HX.out, HE.out, HTL.out]
                  case measure => simp [intOf]; omega
              · have hd' : digitB r[0].toNat = false := by simpa using hd
                clear hd
                have ho : oneL (s.data.toList.drop k) = if signLen (s.data.toList.drop k) = 0 then .err 3 else .tok 3 (signLen (s.data.toList.drop k)) 0 := by
                  conv => lhs; rw [HRC.out]
                  simp only [oneL, hl', hd', if_false, Bool.false_eq_true]
                  rw [← HRC.out]
                rw [← HRD.out] at ho
                have hsl : signLen r.data.toList ≤ r.size := by
                  have := signLen_le r[0] (s.data.toList.drop (k + 1))
                  rw [← HRC.out, ← HRD.out, len_toList] at this
                  exact this
                have HO1 := Lib.hid ho; clear ho
                go_wp2_with fail
                refine (letter_any _ _).mono ?_
                rintro e w1 ⟨rfl, rfl⟩
                go_wp2_with fail
                refine (digit_any _ _).mono ?_
                rintro e w1 ⟨rfl, rfl⟩
                go_wp2_with fail
                refine (sign_any r _ hr1 (by omega)).mono ?_
                rintro e w1 ⟨rfl, rfl⟩
                by_cases h0 : signLen r.data.toList = 0
                · have h0' : ((signLen r.data.toList : Int) == 0) = true := by rw [h0]; rfl
                  have HE := Lib.hid (lexAt_err s.data.toList k acc 3 (by rw [HRC.out]; exact HG.out) (by rw [len_toList]; exact hlt) (by rw [← HRD.out, HO1.out, if_pos h0]))
                  clear h0
                  go_wp2
                  rw [Exit.noGoto_ret]
                  go_ret3
                  exact scan_post (r := ⟨[], 3, k⟩) (by rw [HL.out, HX.out, HE.out]) (World.ownsRow_nil _ _ _ _) (HB.out.alloc hbs _)
                · have h0' : ((signLen r.data.toList : Int) == 0) = false := by rw [beq_eq_false_iff_ne]; omega
                  have HE := Lib.hid (lexAt_tok s.data.toList k acc 3 (signLen r.data.toList) 0 (by rw [HRC.out]; exact HG.out) (by rw [len_toList]; exact hlt) (by rw [← HRD.out, HO1.out, if_neg h0]))
                  have hn0 : 0 < signLen r.data.toList := by omega
                  have HB1 := Lib.hid (Below.refl (wr.alloc (.cells #[.int .i64 0, .string ⟨#[]⟩, .int .i64 0, .int .i64 k] 29)).heap.size (wr.alloc (.cells #[.int .i64 0, .string ⟨#[]⟩, .int .i64 0, .int .i64 k] 29)))
                  clear h0
                  go_wp2_with fail
                  go_region
                  obtain ⟨tx, htx⟩ : ∃ tx, tx = (s.data.toList.drop k).take (signLen r.data.toList) := ⟨_, rfl⟩
                  have hxt : r.extract 0 (signLen r.data.toList) = bs tx := by rw [extract_bs, htx, ← HRD.out]; rfl
                  have htl : tx.length = signLen r.data.toList := by rw [htx, List.length_take, List.length_drop, len_toList]; omega
                  have HTL := Lib.hid htl
                  obtain ⟨w3, hw3⟩ : ∃ w3, w3 = (wr.alloc (.cells #[.int .i64 3, .string (r.extract 0 (signLen r.data.toList)), .int .i64 0, .int .i64 k] 29)).drew := ⟨_, rfl⟩
                  have T := tok_laid (kd := 3) (n := 0) HO.out HB.out hxt hw3
                  rw [← hw3]
                  clear hw3
                  obtain ⟨t1, t2, ⟨p0, p1, p2, p3⟩, t3, t4, t5⟩ := T
                  have hz3 := t2.size
                  have T1 := Lib.hid t1; have T2 := Lib.hid t2; have T4 := Lib.hid t4; have T5 := Lib.hid t5
                  have HOA := Lib.hid (t1.alloc (.cells #[.int .i64 3, .string (bs tx), .int .i64 0, .int .i64 k] 29))
                  clear t1 t2 t4 t5
                  rw [← htx] at HE
                  clear hxt htl htx
                  go_wp2_with (at_builtin; refine wpList_append_own _ rfl _ _ 23 rfl w.heap.size 29 i0 _ 4 40 Try.underlying23 hi hi0 hi1 hi2 rfl (by decide) _ _ _ rfl HOA.out ⟨w3.heap.size, 0, none⟩ 1 1 (Tok.cells ⟨3, tx, 0, k⟩) rfl rfl ?d1 ?d2 ?d3 ?d4 ?d5 ?_)
                  case d1 => exact fun j u hj => cells_one_tok w3 ⟨3, tx, 0, k⟩ 29 j u hj
                  case d2 => intro u hu; simp [Tok.cells] at hu; rcases hu with rfl | rfl | rfl | rfl <;> rfl
                  case d3 => unfold maxLen; omega
                  case d4 => omega
                  case d5 => simp; omega
                  intro v' w4 hown4 hgrow _
                  have R := tok_pushed (t := ⟨3, tx, 0, k⟩) T1.out T2.out T5.out t3 p1 hown4 hgrow
                  clear hown4 hgrow p0 p1 p2 p3
                  obtain ⟨R1, R2, R3⟩ := R
                  have HR1 := Lib.hid R1; have HR2 := Lib.hid R2; clear R1 R2
                  have htl2 : tx.length ≤ r.size := by rw [HTL.out]; omega
                  have htl3 : 0 < tx.length := by rw [HTL.out]; omega
                  go_wp2
                  go_roundw
                  case rel =>
                    refine ⟨k + tx.length, acc ++ [⟨3, tx, 0, k⟩], by go_num, by omega, ?_, ?_, HR1.out, HR2.out⟩
                    · rw [List.length_append, List.length_singleton]; omega
                    · rw [HX.out, HE.out, HTL.out]; rfl
                  case measure => simp [intOf]; omega
      · go_wp2
        rw [Exit.noGoto_ret]
        go_ret3
        have e : scanL s.data.toList = ⟨acc, 0, 0⟩ := by rw [HL.out, HX.out, lexAt_end _ _ _ (by rw [len_toList]; omega)]
        exact scan_post (r := ⟨acc, 0, 0⟩) e HO.out HB.out

end Go.Proofs.Ytnmlejjdofbaiaa
