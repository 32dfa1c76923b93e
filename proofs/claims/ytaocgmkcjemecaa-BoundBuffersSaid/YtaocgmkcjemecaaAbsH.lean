/- The interpreter is sound: slices that are made. Parts of the proofs of the laws. Conditions: none. -/
import Derived.Test.YtaocgmkcjemecaaAbsG
namespace Go.Proofs.Ytaocgmkcjemecaa
open Go.RowKit
set_option linter.unusedVariables false
set_option linter.unusedSimpArgs false

section
variable {S : Nat → Nat → Prop} {w : World} {hp : Hp} {φ : List Pl} {P : Program} {base : Nat} {e : Operand → Value} {o : Oper} {tm : Tm} {ρ : Type} {r : ρ} {K : AV → Option ρ}

/-- A slice that is made of a new block. -/
def FreshS (P : Program) (S : Nat → Nat → Prop) (w : World) (e : Operand → Value) (o : Oper) (et : TypeId) (size : Nat) (els : List (List AV)) : Prop := ∃ vss, Repss S w els vss ∧ (∀ vs ∈ vss, vs.length = size) ∧ els.length ≤ maxLen ∧
  (execOp e o).run P w = .ok (.value (.slice (some ⟨w.heap.size, 0, none⟩) els.length els.length)) (w.alloc (.cells vss.flatten.toArray et))

theorem fresh_buildSlice (hs : Sim P base S w hp φ) (ht : ∀ x, Rep S w hp φ (ev tm x) (e x)) {t et : TypeId} {ps : Array (Nat × Operand)} (ho : o.op = .buildSlice t ps.toList.length ps) (hu : P.underlying t = some (.slice et)) (hz : 0 < P.cellsOf et) (h0 : 0 < ps.toList.length) (hsz : ps.toList.length * P.cellsOf et ≤ 16777216) {z : AV} (hzero : zero P et = some z) (hzl : z.cells.length = P.cellsOf et) (hz1 : z.cells.all AV.one = true)
    {els : List (List AV)} {tys : List TypeId} (h : elems P tys hp (P.cellsOf et) tm 0 ps.toList = some els) : FreshS P S w e o et (P.cellsOf et) els := by
  obtain ⟨i, v, hi, hzv, hlit⟩ := zero_of hzero
  have hsize : (sizeOf et).run P w = .ok (P.cellsOf et) w := run_sizeOf hz
  have hrep : Rep S w hp φ z v := by rw [hlit]; exact lit_rep v
  have hvl : v.cells.size = P.cellsOf et := by
    have := (hrep.cells_rep hz1).length
    rw [hzl] at this; simpa using this.symm
  have hzr : (zeroValue et).run P w = .ok v w := by simp [zeroValue, typeInfo, hi, hzv]
  generalize hcells : (Array.range (ps.toList.length * P.cellsOf et)).map (fun k => v.cells[k % v.cells.size]!) = cells
  have hcl : cells.size = ps.toList.length * P.cellsOf et := by rw [← hcells]; simp
  obtain ⟨vss, g1, g2, g3, g4⟩ := elems_rep ht ps.toList 0 els cells.toList h (by simp [hcl])
  have hels : els.length = ps.toList.length := by rw [g1.length, g3]
  rw [Nat.zero_mul, List.take_zero, List.nil_append, Nat.zero_add, List.drop_of_length_le (by rw [Array.length_toList, hcl]; exact Nat.le_refl _), List.append_nil] at g4
  refine ⟨vss, g1, g2, by rw [hels]; unfold maxLen; have : ps.toList.length ≤ ps.toList.length * P.cellsOf et := Nat.le_mul_of_pos_right _ hz; omega, ?_⟩
  rw [hels]
  have n1 : ¬ (ps.toList.length * P.cellsOf et > 2 ^ 24) := by omega
  have n2 : ¬ (ps.toList.length * P.cellsOf et = 0) := by
    have : 0 < ps.toList.length * P.cellsOf et := Nat.mul_pos h0 hz
    omega
  have hmap : (ps.map fun x => (x.1, e x.2)).toList = ps.toList.map fun x => (x.1, e x.2) := by simp
  simp only [Array.toArray_toList] at g4
  simp only [execOp, ho, Instr.buildSlice, Sem.run_bind, Sem.run_pure, Result.andThen_ok, run_underlying hu, hsize, if_neg n1, if_neg n2, hzr, hcells, hmap, g4, newRow, run_newObj_alloc]

theorem made_eq (z : Array Value) (k : Nat) : madeCells z (k * z.size) = (List.replicate k z.toList).flatten.toArray := by
  have hall : ∀ vs ∈ List.replicate k z.toList, vs.length = z.size := fun vs hv => by rw [List.eq_of_mem_replicate hv]; simp
  apply Array.ext
  · rw [size_madeCells]; simp
  · intro j j1 j2
    rw [size_madeCells] at j1
    have hz : 0 < z.size := Nat.pos_of_ne_zero fun h0 => by rw [h0, Nat.mul_zero] at j1; omega
    have hm : j % z.size < z.size := Nat.mod_lt _ hz
    have hd : j / z.size < k := Nat.div_lt_of_lt_mul (by rw [Nat.mul_comm]; exact j1)
    have h1 := flatten_at hall (i := j / z.size) (j := j % z.size) (vs := z.toList) (by rw [List.getElem?_replicate, if_pos hd]) hm
    rw [Nat.div_add_mod' j z.size] at h1
    have h2 : (List.replicate k z.toList).flatten.toArray[j]? = z[j % z.size]? := by simpa using h1
    rw [Array.getElem?_eq_getElem j2, Array.getElem?_eq_getElem hm] at h2
    rw [Option.some.inj h2]
    simp [madeCells, hm]

theorem fresh_makeSlice (hs : Sim P base S w hp φ) (ht : ∀ x, Rep S w hp φ (ev tm x) (e x)) {t et : TypeId} {n c : Operand} (ho : o.op = .makeSlice t n c) (hu : P.underlying t = some (.slice et)) {l : Int} (hn : ev tm n = .int .i64 l) (hc : ev tm c = .int .i64 l) (h0 : 0 ≤ l) (hb : P.bytesOf et * l ≤ 140737488355328)
    {z : AV} (hzero : zero P et = some z) (hzl : z.cells.length = P.cellsOf et) (hz1 : z.cells.all AV.one = true) {tys : List TypeId} {zc : List AV} (hzc : closeL [] (norms P tys z.cells) = some zc) : FreshS P S w e o et (P.cellsOf et) (List.replicate l.toNat zc) := by
  obtain ⟨i, v, hi, hzv, hlit⟩ := zero_of hzero
  have hrep : Rep S w [] [] z v := by rw [hlit]; exact lit_rep v
  have hcr := hrep.cells_rep hz1
  have hco := hrep.cells_ones hz1
  have hvl : v.cells.toList.length = P.cellsOf et := by rw [← hcr.length, hzl]
  have h1 := ht n; rw [hn] at h1
  have h2 := ht c; rw [hc] at h2
  obtain ⟨e1, w1⟩ := h1.int_inv
  obtain ⟨e2, _⟩ := h2.int_inv
  have w1' : l ≤ 9223372036854775807 := by
    simp [Lit.wf, IntKind.min, IntKind.max, IntKind.bits, IntKind.signed] at w1; omega
  have hbytes : P.bytesOf et = i.bytes := by simp [Program.bytesOf, hi]
  have hsz : P.cellsOf et = i.size := by simp [Program.cellsOf, hi]
  have hrun := run_make (P := P) w t et i v hu hi hzv .i64 .i64 l l h0 (Int.le_refl _) (by rw [hbytes] at hb; omega) w1'
  have hvs : i.size = v.cells.size := by rw [← hsz, ← hvl]; simp
  rw [hvs, made_eq] at hrun
  exact ⟨_, Repss.replicate (closeL_rep (norms_rep (Reps.mono (SExt.refl _ _) hcr HpExt.nil)) hzc) hco l.toNat, fun vs hv => by rw [List.eq_of_mem_replicate hv]; exact hvl, by rw [List.length_replicate]; unfold maxLen; omega, by
    rw [List.length_replicate]
    simp only [execOp, ho, e1, e2, Sem.run_bind, Sem.run_pure, Result.andThen_ok, hrun]⟩

theorem FreshS.stay {et : TypeId} {size : Nat} {els : List (List AV)} (h : FreshS P S w e o et size els) (hs : Sim P base S w hp φ) : Acts P base S w hp φ e o (.sl size els) hp := by
  obtain ⟨vss, h1, h2, h3, h4⟩ := h
  exact acts_new hs et h1 h2 [] h3 h4
theorem FreshS.row {et : TypeId} {size : Nat} {els : List (List AV)} (h : FreshS P S w e o et size els) (hs : Sim P base S w hp φ) (hsz : P.cellsOf et = size) (hz : 0 < size) : Acts P base S w hp φ e o (.row hp.length els.length) (hp ++ [.row et size els]) := by
  obtain ⟨vss, h1, h2, h3, h4⟩ := h
  obtain ⟨S', g1, g2, g3⟩ := hs.alloc_row (e := et) h1 h2 hsz hz h3
  exact ⟨_, S', _, _, .inl h4, g3, g1, g2⟩
theorem FreshS.arr {et : TypeId} {size : Nat} {els : List (List AV)} (h : FreshS P S w e o et size els) (hs : Sim P base S w hp φ) : Acts P base S w hp φ e o (.own hp.length 0 els.length) (hp ++ [.arr size els]) := by
  obtain ⟨vss, h1, h2, h3, h4⟩ := h
  obtain ⟨g1, g2⟩ := hs.alloc_arr (E := et) h1 h2 []
  rw [List.append_nil] at g1 g2
  exact ⟨_, S, _, _, .inl h4, .own _ _ hp.length 0 els.length w.heap.size size els els.length (by rw [← hs.len]; simp) (by rw [nth?_eq]; simp) (by omega) (some ⟨w.heap.size, 0, none⟩) (fun _ => by simp) ⟨Nat.le_refl _, h3, fun h => by cases h⟩, g1, g2⟩

/-! ### Stores -/
theorem below_setRow {g : Nat} {cs : Array Value} (hg : base ≤ g) : Below base w (w.setRow g cs) :=
  ⟨rfl, rfl, rfl, by simp, fun k hk => setRow_other w g k cs (by omega)⟩

/-- A block of an object is written. -/
theorem Sim.write (hs : Sim P base S w hp φ) {id b : Nat} {o' : Ob} (hat : blockAt φ id = some b) (hns : ∀ o, ¬ S b o) (cs : Array Value) (hE : HpExt hp φ (hp.set id o') φ) (hid : id < hp.length) (hob : ObOk P base S (w.setRow b cs) (hp.set id o') φ id o') :
    Sim P base S (w.setRow b cs) (hp.set id o') φ ∧ Trans base S w hp φ S (w.setRow b cs) (hp.set id o') φ := by
  have hS : SExt S w S (w.setRow b cs) := fun b' o h => ⟨h, cell_setRow_other w b cs ⟨b', o, none⟩ (fun e => by
    have e : b' = b := e
    subst e; exact hns o h)⟩
  refine ⟨⟨by simpa using hs.len, by simpa using hs.low, fun b' o h => ?_, fun j oj hj => ?_, hs.apart⟩, ⟨hS, hE, below_setRow (hs.block_lt hat).1, fun _ _ h => .inl h⟩⟩
  · obtain ⟨v, hv⟩ := hs.cell b' o h
    exact ⟨v, (hS b' o h).2.trans hv⟩
  · by_cases hji : j = id
    · subst hji
      rw [List.getElem?_set_self hid] at hj
      cases hj
      exact hob
    · rw [List.getElem?_set_ne (Ne.symm hji)] at hj
      exact (hs.obj j oj hj).keep hS hE rfl fun b' hb' => ⟨setRow_other w b b' cs fun e => hji (hs.apart j id b (e ▸ hb') hat), fun _ => .rfl⟩

theorem run_storeAt {t : TypeId} {g off : Nat} {E : TypeId} {cur : Array Value} {v : Value} (hg : w.heap[g]? = some (.cells cur E (0, 0))) (hsz : v.cells.size = P.cellsOf t) (hpos : 0 < P.cellsOf t) (hl : off + P.cellsOf t ≤ cur.size) (h1 : Ones v.cells.toList) :
    (Instr.storeAt t (.pointer (some ⟨g, off, none⟩)) v).run P w = .ok () (w.setRow g (cur.toList.take off ++ v.cells.toList ++ cur.toList.drop (off + P.cellsOf t)).toArray) := by
  have hsize := run_sizeOf (P := P) (w := w) hpos
  have hst := run_storeCells_at P g off E v.cells.toList 0 cur w hg (by simp only [Nat.add_zero, Array.length_toList]; omega) h1
  simp only [Nat.add_zero, Array.length_toList, hsz] at hst
  have hne : ¬ (v.cells.size ≠ P.cellsOf t) := by omega
  simp only [Instr.storeAt, Instr.sureAddr, storeVar, Sem.run_bind, Sem.run_pure, Result.andThen_ok, hsize, if_neg hne, hst]

theorem hpExt_var (hp : Hp) (φ : List Pl) {id : Nat} {E : TypeId} {cs cs' : List AV} (hob : hp[id]? = some (.var E cs)) : HpExt hp φ (hp.set id (.var E cs')) φ := by
  have hid := nth?_lt hob
  refine ⟨fun _ _ h => h, fun j size els h => ⟨els, ?_, rfl⟩, fun j e size els h => ⟨[], ?_, fun _ v hv => hv⟩⟩
  · rw [nth?_eq] at h ⊢
    rw [List.getElem?_set_ne (fun e => by subst e; rw [hob] at h; cases h)]; exact h
  · rw [nth?_eq] at h ⊢
    rw [List.getElem?_set_ne (fun e => by subst e; rw [hob] at h; cases h), List.append_nil]; exact h

theorem acts_store_var (hs : Sim P base S w hp φ) (ht : ∀ x, Rep S w hp φ (ev tm x) (e x)) {t : TypeId} {a x : Operand} (ho : o.op = .store t a x) (hl : (ev tm x).cells.length = P.cellsOf t) (hpos : 0 < P.cellsOf t) (h1 : (ev tm x).cells.all AV.one = true)
    {id off : Nat} (ha : ev tm a = .ptr id off) {E : TypeId} {cs : List AV} (hob : nth? hp id = some (.var E cs)) (hoff : off + P.cellsOf t ≤ cs.length) : Acts P base S w hp φ e o .junk (setNth hp id (.var E (updL cs off (ev tm x).cells))) := by
  rw [nth?_eq] at hob
  rw [setNth_eq]
  have hx := ht x; have haa := ht a
  rw [ha] at haa
  obtain ⟨b, hb, he⟩ := haa.ptr_inv
  obtain ⟨b', vs, E', g1, g2, g3, g4, g5, g6⟩ := hs.obj id _ hob
  rw [hb] at g1; cases g1
  have hcr := hx.cells_rep h1
  have hco := hx.cells_ones h1
  have hlen : (e x).cells.toList.length = P.cellsOf t := by rw [← hcr.length]; exact hl
  have hlv := g4.length
  have hrun := run_storeAt (P := P) (t := t) (off := off) (v := e x) g3 (by simpa using hlen) hpos (by simp only [List.size_toArray]; omega) hco
  have hE := hpExt_var hp φ (cs' := updL cs off (ev tm x).cells) hob
  have hat : blockAt φ id = some b := by simp [blockAt, hb]
  have hS : ∀ w' : World, (∀ b' o, S b' o → w'.cell? ⟨b', o, none⟩ = w.cell? ⟨b', o, none⟩) → SExt S w S w' := fun w' h b' o hb' => ⟨hb', h b' o hb'⟩
  have hS' : SExt S w S (w.setRow b (vs.take off ++ (e x).cells.toList ++ vs.drop (off + P.cellsOf t)).toArray) := hS _ fun b' o hb' => cell_setRow_other w b _ ⟨b', o, none⟩ fun e1 => by
    have e1 : b' = b := e1
    subst e1; exact g6 o hb'
  obtain ⟨s1, s2⟩ := hs.write hat g6 (vs.take off ++ (e x).cells.toList ++ vs.drop (off + P.cellsOf t)).toArray hE (nth?_lt hob) ⟨b, vs.take off ++ (e x).cells.toList ++ vs.drop (off + P.cellsOf t), E', hb, g2, setRow_heap w b _ _ E' (0, 0) g3, by
      have h0 : Reps S w hp φ (updL cs off (ev tm x).cells) (vs.take off ++ (e x).cells.toList ++ vs.drop (off + P.cellsOf t)) := by
        rw [updL, hl, List.append_assoc]
        exact Reps.append (g4.take off) (Reps.append hcr (g4.drop (off + P.cellsOf t)))
      exact Reps.mono hS' h0 hE, by
      intro v hv
      rcases List.mem_append.1 hv with hv | hv
      · rcases List.mem_append.1 hv with hv | hv
        · exact g5 v (List.mem_of_mem_take hv)
        · exact hco v hv
      · exact g5 v (List.mem_of_mem_drop hv), g6⟩
  refine ⟨undef, S, φ, _, .inr ⟨?_, rfl⟩, .junk _ _ _, s1, s2⟩
  simp only [execOp, ho, he, Sem.run_bind, Sem.run_pure, Result.andThen_ok, hrun]

theorem flatten_set {α : Type} {vss : List (List α)} {size : Nat} (h : ∀ vs ∈ vss, vs.length = size) {i off : Nat} {vs : List α} (hi : vss[i]? = some vs) (xs : List α) (hx : off + xs.length ≤ size) :
    vss.flatten.take (i * size + off) ++ xs ++ vss.flatten.drop (i * size + off + xs.length) = (vss.set i (vs.take off ++ (xs ++ vs.drop (off + xs.length)))).flatten := by
  induction vss generalizing i with
  | nil => simp at hi
  | cons a t ih =>
    have ha := h a (by simp)
    cases i with
    | zero =>
      simp at hi; subst hi
      simp only [Nat.zero_mul, Nat.zero_add, List.flatten_cons, List.set_cons_zero]
      rw [List.take_append_of_le_length (by omega), List.drop_append_of_le_length (by omega)]
      simp [List.append_assoc]
    | succ i =>
      have := ih (fun vs hv => h vs (by simp [hv])) (i := i) (by simpa using hi)
      rw [List.flatten_cons, List.set_cons_succ, List.flatten_cons, ← this]
      rw [show (i + 1) * size + off = a.length + (i * size + off) by rw [ha, Nat.succ_mul]; omega, List.take_append, List.take_of_length_le (by omega), show a.length + (i * size + off) - a.length = i * size + off by omega]
      rw [show a.length + (i * size + off) + xs.length = a.length + (i * size + off + xs.length) by omega, List.drop_append, List.drop_of_length_le (by omega), show a.length + (i * size + off + xs.length) - a.length = i * size + off + xs.length by omega]
      simp [List.append_assoc]
theorem flatten_set_len {α : Type} {vss : List (List α)} {size : Nat} (h : ∀ vs ∈ vss, vs.length = size) (i : Nat) {vs : List α} (hv : vs.length = size) : ∀ us ∈ vss.set i vs, us.length = size := by
  intro us hu
  rcases List.mem_or_eq_of_mem_set hu with hu | rfl
  · exact h us hu
  · exact hv

theorem hpExt_arr (hp : Hp) (φ : List Pl) {id size : Nat} {els els' : List (List AV)} (hob : hp[id]? = some (.arr size els)) (hl : els'.length = els.length) : HpExt hp φ (hp.set id (.arr size els')) φ := by
  have hid := nth?_lt hob
  refine ⟨fun _ _ h => h, fun j sz es h => ?_, fun j e sz es h => ⟨[], ?_, fun _ v hv => hv⟩⟩
  · rw [nth?_eq] at h
    simp only [nth?_eq]
    by_cases hj : j = id
    · subst hj
      rw [hob] at h; cases h
      exact ⟨els', List.getElem?_set_self hid, hl⟩
    · exact ⟨es, by rw [List.getElem?_set_ne (Ne.symm hj)]; exact h, rfl⟩
  · rw [nth?_eq] at h ⊢
    rw [List.getElem?_set_ne (fun e => by subst e; rw [hob] at h; cases h), List.append_nil]; exact h

theorem acts_store_arr (hs : Sim P base S w hp φ) (ht : ∀ x, Rep S w hp φ (ev tm x) (e x)) {t : TypeId} {a x : Operand} (ho : o.op = .store t a x) (hl : (ev tm x).cells.length = P.cellsOf t) (hpos : 0 < P.cellsOf t) (h1 : (ev tm x).cells.all AV.one = true)
    {id i off : Nat} (ha : ev tm a = .pte id i off) {size : Nat} {els : List (List AV)} (hob : nth? hp id = some (.arr size els)) {el : List AV} (hel : nth? els i = some el) {c : List AV} (hc : closeL hp (ev tm x).cells = some c) (hoff : off + P.cellsOf t ≤ el.length) :
    Acts P base S w hp φ e o .junk (setNth hp id (.arr size (setNth els i (updL el off c)))) := by
  rw [nth?_eq] at hob hel
  rw [setNth_eq, setNth_eq]
  have hx := ht x; have haa := ht a
  rw [ha] at haa
  obtain ⟨b, size', els', hb, hob', he⟩ := haa.pte_inv
  rw [nth?_eq, hob] at hob'; cases hob'
  obtain ⟨b', vss, ex, E', g1, g2, g3, g4, g5, g6⟩ := hs.obj id _ hob
  rw [hb] at g1; cases g1
  obtain ⟨vs, hv1, hv2, hv3⟩ := g4.get hel
  have hvs := g5 vs (List.mem_of_getElem? hv1)
  have hcr := hx.cells_rep h1
  have hco := hx.cells_ones h1
  have hcl := closeL_rep hcr hc
  have hlen : (e x).cells.toList.length = P.cellsOf t := by rw [← hcr.length]; exact hl
  have hlc : c.length = P.cellsOf t := by rw [hcl.length]; exact hlen
  have hlv := hv2.length
  have hle : i * size + size ≤ vss.flatten.length := by
    rw [flatten_len g5]
    have := nth?_lt hv1
    calc i * size + size = (i + 1) * size := by rw [Nat.succ_mul]
      _ ≤ vss.length * size := Nat.mul_le_mul_right _ this
  have hrun := run_storeAt (P := P) (t := t) (off := i * size + off) (v := e x) g3 (by simpa using hlen) hpos (by simp only [List.size_toArray, List.length_append]; omega) hco
  have hfl := flatten_set g5 hv1 (e x).cells.toList (off := off) (by omega)
  rw [hlen] at hfl
  have hfl2 : (vss.flatten ++ ex).take (i * size + off) ++ (e x).cells.toList ++ (vss.flatten ++ ex).drop (i * size + off + P.cellsOf t) = (vss.set i (vs.take off ++ ((e x).cells.toList ++ vs.drop (off + P.cellsOf t)))).flatten ++ ex := by
    rw [← hfl, List.take_append_of_le_length (by omega), List.drop_append_of_le_length (by omega), List.append_assoc, List.append_assoc, List.append_assoc]
  simp only [hfl2] at hrun
  have hE := hpExt_arr hp φ (els' := els.set i (updL el off c)) hob (by simp)
  have hat : blockAt φ id = some b := by simp [blockAt, hb]
  generalize hnew : (vss.set i (vs.take off ++ ((e x).cells.toList ++ vs.drop (off + P.cellsOf t)))) = vss' at *
  have hS' : SExt S w S (w.setRow b (vss'.flatten ++ ex).toArray) := fun b' o hb' => ⟨hb', cell_setRow_other w b _ ⟨b', o, none⟩ fun e1 => by
    have e1 : b' = b := e1
    subst e1; exact g6 o hb'⟩
  obtain ⟨s1, s2⟩ := hs.write hat g6 (vss'.flatten ++ ex).toArray hE (nth?_lt hob) ⟨b, vss', ex, E', hb, g2, setRow_heap w b _ _ E' (0, 0) g3, by
      have h0 : Repss S w (els.set i (updL el off c)) vss' := by
        rw [← hnew]
        refine g4.set i ?_ ?_
        · rw [updL, hlc]
          exact Reps.append (hv2.take off) (Reps.append hcl (hv2.drop (off + P.cellsOf t)))
        · intro v hv
          rcases List.mem_append.1 hv with hv | hv
          · exact hv3 v (List.mem_of_mem_take hv)
          · rcases List.mem_append.1 hv with hv | hv
            · exact hco v hv
            · exact hv3 v (List.mem_of_mem_drop hv)
      exact Repss.mono hS' h0, by
      rw [← hnew]
      refine flatten_set_len g5 i ?_
      simp only [List.length_append, List.length_take, List.length_drop, hlen]; omega, g6⟩
  refine ⟨undef, S, φ, _, .inr ⟨?_, rfl⟩, .junk _ _ _, s1, s2⟩
  simp only [execOp, ho, he, Sem.run_bind, Sem.run_pure, Result.andThen_ok, hrun]
end
end Go.Proofs.Ytaocgmkcjemecaa
