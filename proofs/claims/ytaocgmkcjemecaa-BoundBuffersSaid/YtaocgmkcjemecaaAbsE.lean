/- The interpreter is sound: more plain operations. Parts of the proofs of the laws. Conditions: none. -/
import Derived.Test.YtaocgmkcjemecaaAbsD
namespace Go.Proofs.Ytaocgmkcjemecaa
open Go.RowKit
set_option linter.unusedVariables false
set_option linter.unusedSimpArgs false

section
variable {S : Nat → Nat → Prop} {w : World} {hp : Hp} {φ : List Pl} {P : Program} {e : Operand → Value} {o : Oper} {tm : Tm} {ρ : Type} {r : ρ} {K : AV → Option ρ}

theorem gives_convert (ht : ∀ x, Rep S w hp φ (ev tm x) (e x)) {s t : TypeId} {x : Operand} (ho : o.op = .convert s t x) {k k' : IntKind} {n : Int} (hu : P.underlying t = some (.int k)) (hs : (P.underlying s).isSome = true) (hx : ev tm x = .int k' n) : Gives P S w hp φ e o (.int k (k.wrap n)) := by
  have h := ht x
  rw [hx] at h
  obtain ⟨he, _⟩ := h.int_inv
  obtain ⟨d, hd⟩ := Option.isSome_iff_exists.1 hs
  refine ⟨_, ?_, .int _ _ _ _ (wf_wrap _ _)⟩
  simp only [execOp, ho, he, convert, Sem.run_bind, Sem.run_pure, Result.andThen_ok, run_underlying hu, run_underlying hd, Conv.intToInt]

theorem gives_nilCheck (ht : ∀ x, Rep S w hp φ (ev tm x) (e x)) {x : Operand} (ho : o.op = .nilCheck x) (h : (match ev tm x with | .ptr id off => K (.ptr id off) | .pte id i off => K (.pte id i off) | .rptr el off => K (.rptr el off) | .func f a b => K (.func f a b) | _ => none) = some r) : ∃ v, K v = some r ∧ Gives P S w hp φ e o v := by
  have hx := ht x
  generalize ev tm x = av at *
  cases av <;> simp only at h <;> first | (cases h; done) | skip
  case ptr id off =>
    obtain ⟨b, hb, he⟩ := hx.ptr_inv
    exact ⟨_, h, e x, by simp only [execOp, ho, he, Sem.run_pure], hx⟩
  case pte id i off =>
    obtain ⟨b, size, els, hb, hob, he⟩ := hx.pte_inv
    exact ⟨_, h, e x, by simp only [execOp, ho, he, Sem.run_pure], hx⟩
  case rptr el off =>
    obtain ⟨vs, b, ob, _, _, _, he⟩ := hx.rptr_inv
    exact ⟨_, h, e x, by simp only [execOp, ho, he, Sem.run_pure], hx⟩
  case func f a b =>
    obtain ⟨a', b', _, _, he⟩ := hx.func_inv
    exact ⟨_, h, e x, by simp only [execOp, ho, he, Sem.run_pure], hx⟩

theorem gives_field (ht : ∀ x, Rep S w hp φ (ev tm x) (e x)) {t : TypeId} {x : Operand} {f : Nat} (ho : o.op = .field t x f) {p : Nat × TypeId} (hf : fieldOf P t f = some p) {cs : List AV} (hx : ev tm x = .agg cs) (h : sub cs p.1 (P.cellsOf p.2) (fun cs => mkAgg (aggOf P p.2) cs K) = some r) : ∃ v, K v = some r ∧ Gives P S w hp φ e o v := by
  obtain ⟨off, ft⟩ := p
  obtain ⟨fs, fd, hu, hfd, h1, h2⟩ := field_of hf
  subst h1; subst h2
  have hxx := ht x
  rw [hx] at hxx
  obtain ⟨vs, hr, ho1, he⟩ := hxx.agg_inv
  obtain ⟨hle, h⟩ := sub_some h
  simp only at h hle
  have hlen := hr.length
  cases hb : aggOf P fd.type with
  | none => rw [hb] at h; simp [mkAgg] at h
  | some b =>
    rw [hb] at h
    obtain ⟨i, hi, hsz⟩ := info_of_agg hb
    have hra := run_isAgg (w := w) hb
    cases b with
    | true =>
      refine ⟨_, h, .agg ((vs.drop fd.offset).take (P.cellsOf fd.type)).toArray, ?_, .agg _ _ _ _ ((hr.drop _).take _) fun v hv => ho1 v (List.mem_of_mem_drop (List.mem_of_mem_take hv))⟩
      have hext : vs.toArray.extract fd.offset (fd.offset + i.size) = ((vs.drop fd.offset).take (P.cellsOf fd.type)).toArray := by
        rw [hsz]; simp [List.extract_toArray, List.extract_eq_take_drop]
      simp only [execOp, ho, he, Instr.field, Sem.run_bind, Sem.run_pure, Result.andThen_ok, run_underlying hu, hfd, asAgg, part, hra, if_true, sizeOf, typeInfo, run_program, hi, hext]
    | false =>
      generalize hc : (cs.drop fd.offset).take (P.cellsOf fd.type) = c at h
      match c, h with
      | [a], h =>
        have h0 : cs[fd.offset]? = some a := by
          have : ((cs.drop fd.offset).take (P.cellsOf fd.type))[0]? = some a := by rw [hc]; rfl
          rw [List.getElem?_take] at this
          split at this
          · rwa [List.getElem?_drop] at this
          · cases this
        obtain ⟨u, hu0, hru⟩ := hr.get' h0
        refine ⟨a, h, u, ?_, hru⟩
        have hg : vs.toArray[fd.offset]? = some u := by simpa using hu0
        simp only [execOp, ho, he, Instr.field, Sem.run_bind, Sem.run_pure, Result.andThen_ok, run_underlying hu, hfd, asAgg, part, hra, Bool.false_eq_true, if_false, hg]

theorem gives_index (ht : ∀ x, Rep S w hp φ (ev tm x) (e x)) {t : TypeId} {x y : Operand} (ho : o.op = .index t x y) {k : IntKind} {i : Int} (hy : ev tm y = .int k i) (hu : P.underlying t = some .string) {s : List UInt8} (hx : ev tm x = .str s) {b : UInt8} (h0 : 0 ≤ i) (hb : nth? s i.toNat = some b) : Gives P S w hp φ e o (.int .u8 b.toNat) := by
  have hxx := ht x; have hyy := ht y
  rw [hx] at hxx; rw [hy] at hyy
  obtain ⟨he, _⟩ := hxx.str_inv
  obtain ⟨he2, _⟩ := hyy.int_inv
  rw [nth?_eq] at hb
  have hg : (bs s)[i.toNat]? = some b := by
    obtain ⟨hlt, hv⟩ := List.getElem?_eq_some_iff.1 hb
    have h1 : i.toNat < (bs s).size := hlt
    rw [getElem?_pos (bs s) i.toNat h1]
    exact congrArg some hv
  refine ⟨_, ?_, .int _ _ _ _ (wf_byte b)⟩
  simp only [execOp, ho, he, he2, Instr.index, asIntOf, Sem.run_bind, Sem.run_pure, Result.andThen_ok, run_underlying hu, h0, if_true, hg]

theorem bounds_some {n : Nat} {lo hi : Option Operand} {C : Nat → Nat → Option ρ} (ht : ∀ x, Rep S w hp φ (ev tm x) (e x)) (h : bounds n (lo.map (ev tm)) (hi.map (ev tm)) C = some r) :
    ∃ l m : Nat, l ≤ m ∧ m ≤ n ∧ C l m = some r ∧ ∀ (b : Bool) (cap : Nat), n ≤ cap → (Instr.sliceBounds b n cap (lo.map e) (hi.map e) none).run P w = .ok (l, m, cap) w := by
  have num : ∀ x k i, ev tm x = .int k i → e x = .int k i := fun x k i hx => by have := ht x; rw [hx] at this; exact this.int_inv.1
  cases hi with
  | none =>
    cases lo with
    | none => exact ⟨0, n, Nat.zero_le _, Nat.le_refl _, h, fun b cap hc => by simp [Instr.sliceBounds]⟩
    | some x =>
      simp only [bounds, Option.map_some, Option.map_none] at h
      cases hx : ev tm x <;> rw [hx] at h <;> simp only at h <;> first | (cases h; done) | skip
      rename_i k i
      have he := num x k i hx
      by_cases hb : (decide (0 ≤ i) && decide (i ≤ n)) = true
      · rw [hb] at h
        simp only [Bool.and_eq_true, decide_eq_true_eq] at hb
        refine ⟨i.toNat, n, by omega, Nat.le_refl _, h, fun b cap hc => ?_⟩
        simp [Instr.sliceBounds, Instr.sliceBound, asIntOf, he, hb.1, hb.2]
      · rw [Bool.not_eq_true] at hb; rw [hb] at h; cases h
  | some y =>
    cases lo with
    | none =>
      simp only [bounds, Option.map_some, Option.map_none] at h
      cases hy : ev tm y <;> rw [hy] at h <;> simp only at h <;> first | (cases h; done) | skip
      rename_i k i
      have he := num y k i hy
      by_cases hb : (decide (0 ≤ i) && decide (i ≤ n)) = true
      · rw [hb] at h
        simp only [Bool.and_eq_true, decide_eq_true_eq] at hb
        refine ⟨0, i.toNat, by omega, by omega, h, fun b cap hc => ?_⟩
        have : i ≤ cap := by omega
        simp [Instr.sliceBounds, Instr.sliceBound, asIntOf, he, hb.1, this]
      · rw [Bool.not_eq_true] at hb; rw [hb] at h; cases h
    | some x =>
      simp only [bounds, Option.map_some] at h
      cases hy : ev tm y <;> rw [hy] at h <;> simp only at h <;> first | (cases h; done) | skip
      rename_i k i
      cases hx : ev tm x <;> rw [hx] at h <;> simp only at h <;> first | (cases h; done) | skip
      rename_i k2 j
      have he := num y k i hy
      have he2 := num x k2 j hx
      by_cases hb : (((decide (0 ≤ i) && decide (i ≤ n)) && decide (0 ≤ j)) && decide (j ≤ i)) = true
      · rw [hb] at h
        simp only [Bool.and_eq_true, decide_eq_true_eq] at hb
        obtain ⟨⟨⟨h1, h2⟩, h3⟩, h4⟩ := hb
        refine ⟨j.toNat, i.toNat, by omega, by omega, h, fun b cap hc => ?_⟩
        have h5 : i ≤ cap := by omega
        have h6 : j ≤ max i 0 := by omega
        simp [Instr.sliceBounds, Instr.sliceBound, asIntOf, he, he2, h1, h5, h3, h6]
      · rw [Bool.not_eq_true] at hb; rw [hb] at h; cases h

theorem gives_cutStr (ht : ∀ x, Rep S w hp φ (ev tm x) (e x)) {t : TypeId} {x : Operand} {lo hi : Option Operand} (ho : o.op = .slice t x lo hi none) (hu : P.underlying t = some .string) {s : List UInt8} (hx : ev tm x = .str s) (h : bounds s.length (lo.map (ev tm)) (hi.map (ev tm)) (fun l h => K (.str ((s.take h).drop l))) = some r) : ∃ v, K v = some r ∧ Gives P S w hp φ e o v := by
  have hxx := ht x
  rw [hx] at hxx
  obtain ⟨he, hs⟩ := hxx.str_inv
  obtain ⟨l, m, h1, h2, h3, h4⟩ := bounds_some (P := P) ht h
  have h5 := h4 false s.length (Nat.le_refl _)
  have hsz : (bs s).size = s.length := rfl
  refine ⟨_, h3, .string (bs ((s.take m).drop l)), ?_, .str _ _ _ (by rw [List.length_drop, List.length_take]; omega)⟩
  have hext : (bs s).extract l m = bs ((s.take m).drop l) := by
    apply ByteArray.ext
    rw [ByteArray.data_extract]
    simp [bs, List.extract_toArray, List.extract_eq_take_drop, List.drop_take]
  simp only [execOp, ho, he, Instr.sliceAt, Instr.slice, Sem.run_bind, Sem.run_pure, Result.andThen_ok, run_underlying hu, Option.map_none, Option.isSome_none, Bool.false_eq_true, if_false, hsz, h5, hext]

theorem gives_cutS {base : Nat} (hs : Sim P base S w hp φ) (ht : ∀ x, Rep S w hp φ (ev tm x) (e x)) {t et : TypeId} {x : Operand} {lo hi : Option Operand} (ho : o.op = .slice t x lo hi none) (hu : P.underlying t = some (.slice et)) (hz : 0 < P.cellsOf et) (h : cutS hp (ev tm x) (P.cellsOf et) (lo.map (ev tm)) (hi.map (ev tm)) K = some r) : ∃ v, K v = some r ∧ Gives P S w hp φ e o v := by
  have hx := ht x
  have hsz := run_sizeOf (w := w) hz
  have fin : ∀ (a : Option Addr) (n cap l m : Nat) (v : AV), e x = .slice a n cap → (Instr.sliceBounds true n cap (lo.map e) (hi.map e) none).run P w = .ok (l, m, cap) w → K v = some r → Rep S w hp φ v (.slice (if cap = l then a else a.map (·.add (l * P.cellsOf et))) (m - l) (cap - l)) → ∃ v, K v = some r ∧ Gives P S w hp φ e o v := by
    intro a n cap l m v he hb hK hv
    refine ⟨v, hK, _, ?_, hv⟩
    simp only [execOp, ho, he, Instr.sliceAt, Instr.slice, Sem.run_bind, Sem.run_pure, Result.andThen_ok, run_underlying hu, Option.map_none, hb, hsz]
  have fin2 : ∀ (els : List (List AV)) (vss : List (List Value)) (a : Option Addr) (cap l m : Nat), Repss S w els vss → Laid S w a (P.cellsOf et) vss → Cap a els.length cap → l ≤ m → m ≤ els.length → Rep S w hp φ (.sl (P.cellsOf et) ((els.take m).drop l)) (.slice (if cap = l then a else a.map (·.add (l * P.cellsOf et))) (m - l) (cap - l)) := by
    intro els vss a cap l m hr hl hc h1 h2
    have hlen := hr.length
    have hn : ((els.take m).drop l).length = m - l := by rw [List.length_drop, List.length_take]; omega
    have := Rep.sl (S := S) (w := w) hp φ (P.cellsOf et) ((els.take m).drop l) ((vss.take m).drop l) (if cap = l then a else a.map (·.add (l * P.cellsOf et))) (cap - l) ((hr.take m).drop l) ?_ ?_
    · rw [hn] at this; exact this
    · refine ⟨fun vs hv => hl.1 vs (List.mem_of_mem_take (List.mem_of_mem_drop hv)), fun j vs t u hj ht' => ?_⟩
      rw [List.getElem?_drop, List.getElem?_take] at hj
      split at hj
      · rename_i hlt
        obtain ⟨b, o', e1, e2, e3⟩ := hl.2 _ _ _ _ hj ht'
        have hjl := (List.getElem?_eq_some_iff.1 hj).1
        have hne : cap ≠ l := by have := hc.1; omega
        refine ⟨b, o' + l * P.cellsOf et, ?_, ?_, ?_⟩
        · rw [if_neg hne, e1]; simp [add_none]
        · rw [show o' + l * P.cellsOf et + j * P.cellsOf et + t = o' + (l + j) * P.cellsOf et + t by rw [Nat.add_mul]; omega]; exact e2
        · rw [show o' + l * P.cellsOf et + j * P.cellsOf et + t = o' + (l + j) * P.cellsOf et + t by rw [Nat.add_mul]; omega]; exact e3
      · cases hj
    · obtain ⟨c1, c2, c3⟩ := hc
      refine ⟨by rw [hn]; omega, by omega, fun ha => ?_⟩
      split at ha
      · omega
      · cases a with
        | none => have := c3 rfl; omega
        | some a => simp at ha
  generalize ev tm x = av at *
  unfold cutS at h
  cases av <;> simp only at h <;> first | (cases h; done) | skip
  case sl size els =>
    obtain ⟨vss, a, cap, hr, hl, hc, he⟩ := hx.sl_inv
    split at h
    · rename_i hq
      have hq := of_decide_eq_true hq
      subst hq
      obtain ⟨l, m, h1, h2, h3, h4⟩ := bounds_some (P := P) ht h
      exact fin _ _ _ l m _ he (h4 true cap hc.1) h3 (fin2 els vss a cap l m hr hl hc h1 h2)
    · cases h
  case row id n =>
    obtain ⟨et', size, els, ho', hn, hs', hcur⟩ := hx.row_inv
    obtain ⟨vss, a, cap, hr, hl, hc, he⟩ := hs'.sl_inv
    rw [ho'] at h
    simp only at h
    split at h
    · rename_i hq
      have hq := of_decide_eq_true hq
      subst hq
      have hlen : (els.take n).length = n := by rw [List.length_take]; omega
      obtain ⟨l, m, h1, h2, h3, h4⟩ := bounds_some (P := P) ht h
      rw [hlen] at he hc
      exact fin _ _ _ l m _ he (h4 true cap hc.1) h3 (fin2 (els.take n) vss a cap l m hr hl (by rw [hlen]; exact hc) h1 (by rw [hlen]; exact h2))
    · cases h
  case own id off n =>
    obtain ⟨b, size, els, cap, ad, hb, hob, hn, had, hc, he⟩ := hx.own_inv
    rw [hob] at h
    simp only at h
    split at h
    · rename_i hq
      have hq := of_decide_eq_true hq
      subst hq
      obtain ⟨l, m, h1, h2, h3, h4⟩ := bounds_some (P := P) ht h
      refine fin _ _ _ l m _ he (h4 true cap hc.1) h3 (.own _ _ id (off + l) (m - l) b _ els _ hb hob (by omega) _ ?_ ?_)
      · intro hlt
        have hne : cap ≠ l := by have := hc.1; omega
        rw [if_neg hne, had (by omega)]
        simp [add_none, Nat.add_mul]
      · obtain ⟨c1, c2, c3⟩ := hc
        refine ⟨by omega, by omega, fun ha => ?_⟩
        split at ha
        · omega
        · cases ad with
          | none => have := c3 rfl; omega
          | some a => simp at ha
    · cases h
end
end Go.Proofs.Ytaocgmkcjemecaa
