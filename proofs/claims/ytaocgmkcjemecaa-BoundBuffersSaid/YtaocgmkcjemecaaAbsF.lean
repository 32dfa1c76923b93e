/- The interpreter is sound: what is built. Parts of the proofs of the laws. Conditions: none. -/
import Derived.Test.YtaocgmkcjemecaaAbsE
namespace Go.Proofs.Ytaocgmkcjemecaa
open Go.RowKit
set_option linter.unusedVariables false
set_option linter.unusedSimpArgs false

theorem fold_list (off : Nat) : ∀ (l : List Value) (j0 : Nat) (cells : Array Value), off + j0 + l.length ≤ cells.size →
    (l.zipIdx j0).foldl (fun (cs : Array Value) x => cs.setIfInBounds (off + x.2) x.1) cells = (cells.toList.take (off + j0) ++ l ++ cells.toList.drop (off + j0 + l.length)).toArray
  | [], j0, cells, _ => by simp
  | v :: l, j0, cells, h => by
    simp only [List.length_cons] at h
    rw [List.zipIdx_cons, List.foldl_cons, fold_list off l (j0 + 1) _ (by simp; omega)]
    congr 1
    simp only [Array.toList_setIfInBounds]
    have h1 : off + j0 < cells.toList.length := by simp; omega
    rw [show off + (j0 + 1) = off + j0 + 1 by omega, List.take_add_one, List.getElem?_set_self h1, List.take_set_of_le (Nat.le_refl _), List.drop_set_of_lt (by omega)]
    simp only [Option.toList_some, List.append_assoc, List.cons_append, List.nil_append, List.length_cons]
    rw [show off + j0 + 1 + l.length = off + j0 + (l.length + 1) by omega]
theorem fold_cells (off : Nat) (v cells : Array Value) (h : off + v.size ≤ cells.size) :
    v.zipIdx.foldl (fun (cs : Array Value) (x : Value × Nat) => cs.setIfInBounds (off + x.2) x.1) cells = (cells.toList.take off ++ v.toList ++ cells.toList.drop (off + v.size)).toArray := by
  rw [← Array.foldl_toList, Array.toList_zipIdx]
  have := fold_list off v.toList 0 cells (by simpa using h)
  simpa using this

section
variable {S : Nat → Nat → Prop} {w : World} {hp : Hp} {φ : List Pl} {P : Program} {e : Operand → Value} {o : Oper} {tm : Tm} {ρ : Type} {r : ρ} {K : AV → Option ρ}

theorem Rep.cells_rep {a : AV} {v : Value} (h : Rep S w hp φ a v) (h1 : a.cells.all AV.one = true) : Reps S w hp φ a.cells v.cells.toList := by
  by_cases ha : ∃ cs, a = .agg cs
  · obtain ⟨cs, rfl⟩ := ha
    obtain ⟨vs, hr, _, rfl⟩ := h.agg_inv
    simpa [AV.cells, Value.cells] using hr
  · have e1 : a.cells = [a] := by cases a <;> first | rfl | exact absurd ⟨_, rfl⟩ ha
    rw [e1] at h1 ⊢
    have h2 : a.one = true := by simpa using h1
    have h3 := h.oneCell h2
    have e2 : v.cells.toList = [v] := by cases v <;> first | rfl | (simp [Value.oneCell'] at h3)
    rw [e2]
    exact .cons _ _ _ _ _ _ h (.nil _ _)
theorem Rep.cells_ones {a : AV} {v : Value} (h : Rep S w hp φ a v) (h1 : a.cells.all AV.one = true) : Ones v.cells.toList := (h.cells_rep h1).ones h1

theorem gives_parts (ht : ∀ x, Rep S w hp φ (ev tm x) (e x)) {t : TypeId} {fs : Array Field} (hu : P.underlying t = some (.struct fs)) {places : Array (Nat × Nat)} (hpl : ∀ (i : Nat) (fd : Field), fs[i]? = some fd → places[i]? = some (fd.offset, P.cellsOf fd.type)) :
    ∀ (ps : List (Nat × Operand)) (cs cs' : List AV) (vs : List Value), Reps S w hp φ cs vs → Ones vs → parts P t tm cs ps = some cs' →
      ∃ vs', Instr.fill (places[·]?) vs.toArray (ps.map fun x => (x.1, e x.2)) = some vs'.toArray ∧ Reps S w hp φ cs' vs' ∧ Ones vs'
  | [], cs, cs', vs, hr, h1, h => by
    simp only [parts, Option.some.injEq] at h
    subst h
    exact ⟨vs, rfl, hr, h1⟩
  | (i, x) :: rest, cs, cs', vs, hr, h1, h => by
    simp only [parts] at h
    cases hf : fieldOf P t i with
    | none => rw [hf] at h; cases h
    | some p =>
      obtain ⟨off, ft⟩ := p
      rw [hf] at h
      simp only at h
      split at h
      · rename_i hc
        simp only [Bool.and_eq_true, decide_eq_true_eq] at hc
        obtain ⟨⟨hc1, hc2⟩, hc3⟩ := hc
        obtain ⟨fs', fd, hu', hfd, e1, e2⟩ := field_of hf
        rw [hu] at hu'; cases hu'
        subst e1; subst e2
        have hx := ht x
        have hcr := hx.cells_rep hc1
        have hlen := hcr.length
        have hlen2 := hr.length
        have hsz : (e x).cells.size = P.cellsOf fd.type := by rw [← hc3, hlen]; simp
        have hlen' : (ev tm x).cells.length = (e x).cells.size := by rw [hlen]; simp
        obtain ⟨vs', g1, g2, g3⟩ := gives_parts ht hu hpl rest _ cs' (vs.take fd.offset ++ ((e x).cells.toList ++ vs.drop (fd.offset + (e x).cells.size))) ((hr.take _).append (hcr.append (by rw [← hlen']; exact hr.drop _)))
          (by
            intro v hv
            rcases List.mem_append.1 hv with hv | hv
            · exact h1 v (List.mem_of_mem_take hv)
            · rcases List.mem_append.1 hv with hv | hv
              · exact hx.cells_ones hc1 v hv
              · exact h1 v (List.mem_of_mem_drop hv)) h
        refine ⟨vs', ?_, g2, g3⟩
        have hb : (decide ((e x).cells.size ≠ P.cellsOf fd.type) || decide (fd.offset + (e x).cells.size > vs.toArray.size)) = false := by
          simp only [List.size_toArray, Bool.or_eq_false_iff, decide_eq_false_iff_not]; omega
        simp only [List.map_cons, Instr.fill, hpl i fd hfd, hb, Bool.false_eq_true, if_false]
        rw [fold_cells _ _ _ (by simp only [List.size_toArray]; omega)]
        rw [← g1]
        simp [List.append_assoc]
      · cases h

theorem places_of {fs : List Field} (h : fs.all (fun f => (P.info? f.type).isSome) = true) : ∃ places, fs.mapM (fun f => (P.info? f.type).map fun i => (f.offset, i.size)) = some places ∧ ∀ (i : Nat) (fd : Field), fs[i]? = some fd → places[i]? = some (fd.offset, P.cellsOf fd.type) := by
  induction fs with
  | nil => exact ⟨[], by simp, fun i fd h => by simp at h⟩
  | cons f fs ih =>
    simp only [List.all_cons, Bool.and_eq_true] at h
    obtain ⟨pl, h1, h2⟩ := ih h.2
    obtain ⟨i, hi⟩ := Option.isSome_iff_exists.1 h.1
    refine ⟨(f.offset, i.size) :: pl, by simp [List.mapM_cons, hi, h1], fun k fd hk => ?_⟩
    cases k with
    | zero => simp at hk; subst hk; simp [Program.cellsOf, hi]
    | succ k => simpa using h2 k fd (by simpa using hk)
theorem zero_of {t : TypeId} {z : AV} (h : zero P t = some z) : ∃ i v, P.info? t = some i ∧ i.zero = some v ∧ z = lit v := by
  unfold zero at h
  cases hi : P.info? t with
  | none => rw [hi] at h; cases h
  | some i =>
    rw [hi] at h
    simp only at h
    cases hz : i.zero with
    | none => rw [hz] at h; cases h
    | some v => rw [hz] at h; cases h; exact ⟨i, v, rfl, hz, rfl⟩

theorem gives_build (ht : ∀ x, Rep S w hp φ (ev tm x) (e x)) {t : TypeId} {ps : Array (Nat × Operand)} (ho : o.op = .build t ps) {fs : Array Field} (hu : P.underlying t = some (.struct fs)) (hall : fs.toList.all (fun f => (P.info? f.type).isSome) = true)
    {z cs : List AV} (hz : zero P t = some (.agg z)) (h : parts P t tm z ps.toList = some cs) : Gives P S w hp φ e o (.agg cs) := by
  obtain ⟨places, hp1, hp2⟩ := places_of hall
  obtain ⟨i, v, hi, hzv, hlit⟩ := zero_of hz
  have hrep : Rep S w hp φ (.agg z) v := by rw [hlit]; exact lit_rep v
  obtain ⟨vs, hr, h1, rfl⟩ := hrep.agg_inv
  obtain ⟨vs', g1, g2, g3⟩ := gives_parts ht hu (places := places.toArray) (by simpa using hp2) ps.toList z cs vs hr h1 h
  have hb : P.built t (ps.map fun x => (x.1, e x.2)).toList = some vs'.toArray := by
    simp only [Program.built, hi, hu, hzv, hp1, Array.toList_map, Value.cells]
    exact g1
  refine ⟨_, ?_, .agg _ _ _ _ g2 g3⟩
  have := run_build (P := P) w t (ps.map fun x => (x.1, e x.2)) vs'.toArray hb
  simp only [execOp, ho, Sem.run_bind, Sem.run_pure, Result.andThen_ok, this]
theorem gives_makeFunc (ht : ∀ x, Rep S w hp φ (ev tm x) (e x)) {f : FuncId} {a b : Array Operand} (ho : o.op = .makeFunc (.func f) a b) : Gives P S w hp φ e o (.func f (a.toList.map (ev tm)) (b.toList.map (ev tm))) := by
  have hl : ∀ l : List Operand, Reps S w hp φ (l.map (ev tm)) (l.map e) := by
    intro l
    induction l with
    | nil => exact .nil _ _
    | cons x l ih => exact .cons _ _ _ _ _ _ (ht x) ih
  refine ⟨_, ?_, .func _ _ f _ _ _ _ (hl a.toList) (hl b.toList)⟩
  have e1 : (a.toList.map e).toArray = a.map e := by apply Array.ext'; rw [Array.toList_map]
  have e2 : (b.toList.map e).toArray = b.map e := by apply Array.ext'; rw [Array.toList_map]
  simp only [execOp, ho, Instr.makeFunc, Sem.run_bind, Sem.run_pure, Result.andThen_ok, e1, e2]
theorem gives_min (ht : ∀ x, Rep S w hp φ (ev tm x) (e x)) {x y : Operand} {ts : Array TypeId} (ho : o.op = .call { callee := .builtin .min, args := #[x, y], argTypes := ts }) {k k' : IntKind} {a b : Int} (hx : ev tm x = .int k a) (hy : ev tm y = .int k' b) (hk : k = k') : Gives P S w hp φ e o (.int k (if b < a then b else a)) := by
  subst hk
  have h1 := ht x; have h2 := ht y
  rw [hx] at h1; rw [hy] at h2
  obtain ⟨e1, w1⟩ := h1.int_inv; obtain ⟨e2, w2⟩ := h2.int_inv
  refine ⟨.int k (if b < a then b else a), ?_, .int _ _ _ _ (by split <;> assumption)⟩
  simp [execOp, ho, resolve, invoke, builtin, Builtin.min_, Builtin.min2, e1, e2]
theorem gives_max (ht : ∀ x, Rep S w hp φ (ev tm x) (e x)) {x y : Operand} {ts : Array TypeId} (ho : o.op = .call { callee := .builtin .max, args := #[x, y], argTypes := ts }) {k k' : IntKind} {a b : Int} (hx : ev tm x = .int k a) (hy : ev tm y = .int k' b) (hk : k = k') : Gives P S w hp φ e o (.int k (if a < b then b else a)) := by
  subst hk
  have h1 := ht x; have h2 := ht y
  rw [hx] at h1; rw [hy] at h2
  obtain ⟨e1, w1⟩ := h1.int_inv; obtain ⟨e2, w2⟩ := h2.int_inv
  refine ⟨.int k (if a < b then b else a), ?_, .int _ _ _ _ (by split <;> assumption)⟩
  simp [execOp, ho, resolve, invoke, builtin, Builtin.max_, Builtin.max2, e1, e2]
end
end Go.Proofs.Ytaocgmkcjemecaa
