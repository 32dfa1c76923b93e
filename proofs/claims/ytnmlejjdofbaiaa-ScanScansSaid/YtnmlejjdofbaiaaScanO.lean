/- Parts of the proofs of the laws of layer 1, scan (text ScanO). Conditions: none. -/
import Derived.Test.YtnmlejjdofbaiaaScanM
import Derived.Test.YtnmlejjdofbaiaaScanN
namespace Go.Proofs.Ytnmlejjdofbaiaa
open Go.RowKit

theorem one_any (s : ByteArray) (p : Nat) (w : World) (hs : s.size ≤ 4000000000000000000) (hp : p < s.size) :
    Calls Try.prog 26 #[.string s, .int .i64 p] w (OnePost s p w) := by
  by_cases h1 : letterB (s[p]'hp).toNat = true
  · exact one_any_word s p w hs hp h1
  · by_cases h2 : digitB (s[p]'hp).toNat = true
    · exact one_any_number s p w hs hp h2
    · exact one_any_sign s p w hs hp (by simpa using h1) (by simpa using h2)

theorem gapS_gap (b : Bool) (l : List UInt8) : gapS false (l.drop (gapS b l)) = 0 := by
  induction l generalizing b with
  | nil => simp [gapS]
  | cons c t ih =>
    cases b with
    | true =>
      simp only [gapS]
      split
      · rw [show 1 + gapS false t = gapS false t + 1 by omega, List.drop_succ_cons]; exact ih false
      · rw [show 1 + gapS true t = gapS true t + 1 by omega, List.drop_succ_cons]; exact ih true
    | false =>
      simp only [gapS]
      split
      · rw [show 1 + gapS false t = gapS false t + 1 by omega, List.drop_succ_cons]; exact ih false
      · split
        · rw [show 1 + gapS true t = gapS true t + 1 by omega, List.drop_succ_cons]; exact ih true
        · rename_i h1 h2
          simp [gapS, h1, h2]

theorem gap_from (l : List UInt8) (p : Nat) : gapS false (l.drop (p + gapS false (l.drop p))) = 0 := by
  rw [← List.drop_drop]; exact gapS_gap false _

/-- What Scan hands back: a row of its own. -/
def ScanPost (s : ByteArray) (w : World) (e : Ending) (w' : World) : Prop :=
  ∃ v, e = .returned (.tuple #[v, .int .i64 (scanL s.data.toList).err, .int .i64 (scanL s.data.toList).at']) ∧ w'.ownsRow w.heap.size 29 4 v (scanL s.data.toList).toks.length (tokCells (scanL s.data.toList).toks) ∧ Below w.heap.size w w'

theorem info_tok : (Try.prog.info? 29).map (fun i => (i.zero, i.size, i.bytes)) = some (some (.agg #[.int .i64 0, .string ⟨#[]⟩, .int .i64 0, .int .i64 0]), 4, 40) := by kernel_rfl

theorem scan_long {s : ByteArray} (h : 20000 < s.size) : scanL s.data.toList = ⟨[], 2, 20000⟩ := by
  unfold scanL
  rw [if_pos (by rw [len_toList]; omega)]
theorem scan_short {s : ByteArray} (h : s.size ≤ 20000) : scanL s.data.toList = lexAt s.data.toList 0 [] := by
  unfold scanL lexAt
  rw [if_neg (by rw [len_toList]; omega)]
  rfl

theorem scan_post {s : ByteArray} {w w' : World} {v : Value} {r : ScanRes} (hr : scanL s.data.toList = r) (ho : w'.ownsRow w.heap.size 29 4 v r.toks.length (tokCells r.toks)) (hb : Below w.heap.size w w') :
    ScanPost s w (.returned (.tuple #[v, .int .i64 r.err, .int .i64 r.at'])) w' := by
  subst hr
  exact ⟨v, rfl, ho, hb⟩

theorem tokCells_snoc (l : List Tok) (t : Tok) : tokCells (l ++ [t]) = tokCells l ++ t.cells := by simp [tokCells]

theorem cells_one_tok (w : World) (t : Tok) (E : TypeId) : ∀ j u, t.cells[j]? = some u → (w.alloc (.cells #[.int .i64 t.kind, .string (bs t.text), .int .i64 t.n, .int .i64 t.at'] E)).cell? ((⟨w.heap.size, 0, none⟩ : Addr).add j) = some u := by
  intro j u hj
  have hadd : (⟨w.heap.size, 0, none⟩ : Addr).add j = ⟨w.heap.size, j, none⟩ := by unfold Addr.add; split <;> simp_all
  rw [hadd]
  simp only [World.cell?, heap_alloc_new]
  simpa [Tok.cells] using hj

/-- What a round does that finds a token: the row has one more, the token's own variable is as it was. -/
theorem tok_round {w wr w1 w2 : World} {acc : List Tok} {v v' : Value} {t : Tok} {E : TypeId} {A : Obj}
    (hown : wr.ownsRow w.heap.size E 4 v acc.length (tokCells acc)) (hb : Below w.heap.size w wr) (hb1 : Below wr.heap.size wr w1)
    (hA : A = .cells #[.int .i64 t.kind, .string (bs t.text), .int .i64 t.n, .int .i64 t.at'] E)
    (h2 : w2.ownsRow w.heap.size E 4 v' (acc.length + 1) (tokCells acc ++ t.cells)) (hg : ((w1.alloc A).alloc A).grownBy w2 v.ownBlock) :
    w2.ownsRow w.heap.size E 4 v' (acc ++ [t]).length (tokCells (acc ++ [t])) ∧ Below w.heap.size w w2 ∧ w2.cell? ⟨w1.heap.size, 1, none⟩ = some (.string (bs t.text)) ∧ w1.heap.size < w2.heap.size := by
  have hz := hb.size
  have hz1 := hb1.size
  have hlt := hown.lt
  refine ⟨?_, ?_, ?_, ?_⟩
  · rw [tokCells_snoc, List.length_append]; exact h2
  · refine Below.grown (((hb.trans (hb1.mono hz)).alloc (by omega) A).alloc (by simp; omega) A) hg (by simp; omega) (fun j hj => (hlt j hj).1)
  · refine hg.cell ?_ ?_
    · rw [Below.cell (w := w1.alloc A) (((Below.refl _ _).alloc (Nat.le_refl _) A)) (by simp), hA]
      simp only [World.cell?, heap_alloc_new]
      rfl
    · intro e
      have := hlt w1.heap.size e.symm
      omega
  · have := hg.size
    simp at this
    omega

/-- Behind a token, and behind what is skipped. -/
theorem gap_step (s : ByteArray) (p : Nat) (acc : List Tok) (hp : p ≤ s.size) :
    p + gapS false (s.data.toList.drop p) ≤ s.size ∧ gapS false (s.data.toList.drop (p + gapS false (s.data.toList.drop p))) = 0 ∧ lexAt s.data.toList p acc = lexAt s.data.toList (p + gapS false (s.data.toList.drop p)) acc := by
  have h1 := gapS_le false (s.data.toList.drop p)
  rw [List.length_drop, len_toList] at h1
  have h2 := gap_from s.data.toList p
  exact ⟨by omega, h2, lexAt_gap _ _ _ _ (by rw [len_toList]; exact hp) (by rw [h2]; omega)⟩

set_option maxHeartbeats 4000000 in
theorem refScan_any (s : ByteArray) (w : World) :
    Calls Try.prog 10 #[.string s] w (ScanPost s w) := by
  by_cases hlong : 20000 < s.size
  · have HL := Lib.hid (scan_long hlong)
    go_enter Try.func10, Try.ntmps10
    go_wp2
    go_ret3
    exact scan_post HL.out (World.ownsRow_nil _ _ _ _) (Below.refl _ _)
  · have hs : s.size ≤ 20000 := by omega
    have HL := Lib.hid (scan_short hs)
    obtain ⟨i0, hi, hi0, hi1, hi2⟩ := info_parts info_tok
    go_enter Try.func10, Try.ntmps10
    go_wp2_with fail
    refine (gap_any s 0 _ (by omega) (by omega)).mono ?_
    rintro e w' ⟨rfl, rfl⟩
    go_wp2
    go_loopw [5, 6] (fun v i wr => ∃ (k : Nat) (acc : List Tok), i = .int .i64 k ∧ k ≤ s.size ∧ acc.length ≤ k ∧ gapS false (s.data.toList.drop k) = 0 ∧ lexAt s.data.toList 0 [] = lexAt s.data.toList k acc ∧
        wr.ownsRow w.heap.size 29 4 v acc.length (tokCells acc) ∧ Below w.heap.size w wr) (fun _ i _ => s.size - (intOf i).toNat)
    case atStart =>
      have G := gap_step s 0 [] (by omega)
      simp only [Nat.zero_add, List.drop_zero] at G
      exact ⟨_, [], rfl, G.1, by simp, G.2.1, G.2.2, World.ownsRow_nil _ _ _ _, Below.refl _ _⟩
    case round =>
      obtain ⟨k, acc, rfl, hk, hacc, hg, hlex, hown, hb⟩ := hrel
      have HG := Lib.hid hg; have HX := Lib.hid hlex; have HB := Lib.hid hb; have HO := Lib.hid hown
      have hbs := hb.size
      clear hg hlex hb hown
      by_cases hlt : k < s.size
      · cases ho : oneL (s.data.toList.drop k) with
        | err x =>
          have HE := Lib.hid (lexAt_err s.data.toList k acc x HG.out (by rw [len_toList]; exact hlt) ho)
          have hv : oneVal (s.data.toList.drop k) k = .tuple #[.agg #[.int .i64 0, .string ⟨#[]⟩, .int .i64 0, .int .i64 0], .int .i64 x] := by simp only [oneVal, ho]; rfl
          have hx := oneL_err ho
          have HV := Lib.hid hv; clear hv ho
          go_wp2_with fail
          refine (one_any s k _ (by omega) hlt).mono ?_
          rintro e w1 ⟨he, hb1⟩
          rw [HV.out] at he
          subst he
          have hz1 := hb1.size
          have HB1 := Lib.hid hb1; clear hb1
          go_wp2
          go_ret3
          exact scan_post (r := ⟨[], x, k⟩) (by rw [HL.out, HX.out, HE.out]) (World.ownsRow_nil _ _ _ _) ((HB.out.trans (HB1.out.mono hbs)).alloc (by omega) _)
        | tok kd n vn =>
          have hn := oneL_len ho
          have HE := Lib.hid (lexAt_tok s.data.toList k acc kd n vn HG.out (by rw [len_toList]; exact hlt) ho)
          rw [List.length_drop, len_toList] at hn
          obtain ⟨hn1, hn2⟩ := hn
          have htl : ((s.data.toList.drop k).take n).length = n := by rw [List.length_take, List.length_drop, len_toList]; omega
          have hv : oneVal (s.data.toList.drop k) k = .tuple #[.agg #[.int .i64 kd, .string (bs ((s.data.toList.drop k).take n)), .int .i64 vn, .int .i64 k], .int .i64 0] := by simp only [oneVal, ho]; rfl
          have HV := Lib.hid hv; clear hv ho
          obtain ⟨tx, htx⟩ : ∃ tx, tx = (s.data.toList.drop k).take n := ⟨_, rfl⟩
          rw [← htx] at HE HV htl
          clear htx
          subst htl
          go_wp2_with fail
          refine (one_any s k _ (by omega) hlt).mono ?_
          rintro e w1 ⟨he, hb1⟩
          rw [HV.out] at he
          subst he
          have hz1 := hb1.size
          have ho1 := ((owns_below HO.out hb1).alloc (.cells #[.int .i64 kd, .string (bs tx), .int .i64 vn, .int .i64 k] 29)).alloc (.cells #[.int .i64 kd, .string (bs tx), .int .i64 vn, .int .i64 k] 29)
          have HO1 := Lib.hid ho1; have HB1 := Lib.hid hb1; clear ho1 hb1
          go_wp2_with (at_builtin; refine wpList_append_own _ rfl _ _ 23 rfl w.heap.size 29 i0 _ 4 40 Try.underlying23 hi hi0 hi1 hi2 rfl (by decide) _ _ _ rfl HO1.out ⟨w1.heap.size + 1, 0, none⟩ 1 1 (Tok.cells ⟨kd, tx, vn, k⟩) rfl rfl ?c1 ?c2 ?c3 ?c4 ?c5 ?_)
          case c1 => exact fun j u hj => by simpa using cells_one_tok (w1.alloc (.cells #[.int .i64 kd, .string (bs tx), .int .i64 vn, .int .i64 k] 29)) ⟨kd, tx, vn, k⟩ 29 j u hj
          case c2 => intro u hu; simp [Tok.cells] at hu; rcases hu with rfl | rfl | rfl | rfl <;> rfl
          case c3 => unfold maxLen; omega
          case c4 => omega
          case c5 => simp; omega
          intro v' w2 hown2 hgrow _
          have R := tok_round (t := ⟨kd, tx, vn, k⟩) HO.out HB.out HB1.out rfl hown2 hgrow
          clear hown2 hgrow
          obtain ⟨R1, R2, R3, R4⟩ := R
          have HR1 := Lib.hid R1; have HR2 := Lib.hid R2; clear R1 R2
          go_wp2_with fail
          refine (gap_at s _ (k + tx.length) _ (by omega) (by omega) (by omega)).mono ?_
          rintro e w3 ⟨rfl, rfl⟩
          go_wp2
          go_roundw
          case rel =>
            have G := gap_step s (k + tx.length) (acc ++ [⟨kd, tx, vn, k⟩]) (by omega)
            refine ⟨_, acc ++ [⟨kd, tx, vn, k⟩], rfl, G.1, ?_, G.2.1, ?_, HR1.out, HR2.out⟩
            · rw [List.length_append, List.length_singleton]; omega
            · rw [HX.out, HE.out, G.2.2]
          case measure => simp [intOf]; omega
      · go_wp2
        go_ret3
        have e : scanL s.data.toList = ⟨acc, 0, 0⟩ := by rw [HL.out, HX.out, lexAt_end _ _ _ (by rw [len_toList]; omega)]
        exact scan_post (r := ⟨acc, 0, 0⟩) e HO.out HB.out

end Go.Proofs.Ytnmlejjdofbaiaa
