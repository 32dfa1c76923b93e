/- Parts of the proofs: what they lean on. Conditions: none. -/
import Derived.OpenShut
import Derived.Test.YtmaklniljnbokaaProg
import Derived.Test.YtmaklniljnbokaaRpbS8
section
namespace Go.Proofs.Ytmaklniljnbokaa
open Go.RowKit
set_option linter.unusedVariables false
set_option linter.unusedSimpArgs false

structure OpS where
  op : Int
  n : Int
  t : Int
  deriving DecidableEq

structure InstrS where
  op : Int
  reg : Int
  loc : Int
  e : List OpS
  f : List OpS
  ne : Bool
  goal : Int
  deriving DecidableEq

structure UnitS where
  mod : Int
  init : List Int
  regs : List Int
  code : List (List InstrS)
  deriving DecidableEq

structure EntryS where
  loc : Int
  n : Int
  deriving DecidableEq

structure ConfS where
  pc : List Int
  regs : List (List Int)
  mem : List Int
  buf : List (List EntryS)
  deriving DecidableEq

abbrev rI : Rd Int := rInt .i64
def rInts : Rd (List Int) := rSlice rI
def rOp : Rd OpS := rMap (fun x => ⟨x.1, x.2.1, x.2.2⟩) (rPair rI (rPair rI rI))
def rOps : Rd (List OpS) := rSlice rOp
def rInstr : Rd InstrS := rMap (fun x => ⟨x.1, x.2.1, x.2.2.1, x.2.2.2.1, x.2.2.2.2.1, x.2.2.2.2.2.1, x.2.2.2.2.2.2⟩) (rPair rI (rPair rI (rPair rI (rPair rOps (rPair rOps (rPair rBool rI))))))
def rInstrs : Rd (List InstrS) := rSlice rInstr
def rCode : Rd (List (List InstrS)) := rSlice rInstrs
def rUnit : Rd UnitS := rMap (fun x => ⟨x.1, x.2.1, x.2.2.1, x.2.2.2⟩) (rPair rI (rPair rInts (rPair rInts rCode)))
def rEntry : Rd EntryS := rMap (fun x => ⟨x.1, x.2⟩) (rPair rI rI)
def rEntries : Rd (List EntryS) := rSlice rEntry
theorem mono_ints : Mono rInts := mono_slice (mono_int _)
theorem mono_op : Mono rOp := mono_map _ (mono_pair (mono_int _) (mono_pair (mono_int _) (mono_int _)))
theorem mono_ops : Mono rOps := mono_slice mono_op
theorem mono_instr : Mono rInstr := mono_map _ (mono_pair (mono_int _) (mono_pair (mono_int _) (mono_pair (mono_int _) (mono_pair mono_ops (mono_pair mono_ops (mono_pair mono_bool (mono_int _)))))))
theorem mono_instrs : Mono rInstrs := mono_slice mono_instr
theorem mono_entry : Mono rEntry := mono_map _ (mono_pair (mono_int _) (mono_int _))
theorem mono_entries : Mono rEntries := mono_slice mono_entry
/-- A slice value reads as a list. -/
abbrev Sl {α : Type} (r : Rd α) (w : World) (v : Value) (l : List α) : Prop := (rSlice r).rel w [v] l

theorem Sl.mono {α : Type} {r : Rd α} (hm : Mono r) {w w' : World} {v : Value} {l : List α} (h : Sl r w v l) (hb : Below w.heap.size w w') : Sl r w' v l := mono_slice hm _ _ _ _ h hb

theorem Sl.len {α : Type} {r : Rd α} {w : World} {v : Value} {l : List α} (h : Sl r w v l) : l.length ≤ 9223372036854775807 := by
  obtain ⟨a, cap, _, ⟨h1, h2, _⟩, _⟩ := h
  unfold maxLen at h2; omega

theorem wf_i64 {n : Int} (h : (Lit.int .i64 n).wf = true) : -9223372036854775808 ≤ n ∧ n ≤ 9223372036854775807 := _root_.Go.bounds_i64 h

theorem ints_view {w : World} {v : Value} {l : List Int} (h : Sl rI w v l) :
    ∃ a cap, v = .slice a l.length cap ∧ ∀ k (hk : k < l.length), ∃ b off, a = some ⟨b, off, none⟩ ∧ w.cell? ⟨b, off + k, none⟩ = some (.int .i64 l[k]) ∧ -9223372036854775808 ≤ l[k] ∧ l[k] ≤ 9223372036854775807 := by
  obtain ⟨a, cap, h1, _, h3⟩ := h
  simp only [List.cons.injEq, and_true] at h1
  subst h1
  refine ⟨a, cap, rfl, fun k hk => ?_⟩
  obtain ⟨b, off, cs', e1, _, e3, e4, e5⟩ := h3 k hk
  subst e4
  have h0 := e3 0 _ rfl
  exact ⟨b, off, e1, by simpa [rInt] using h0, wf_i64 e5⟩

theorem rOp_rel {w : World} {cs : List Value} {x : OpS} (h : rOp.rel w cs x) : cs = [.int .i64 x.op, .int .i64 x.n, .int .i64 x.t] ∧ ((-9223372036854775808 ≤ x.op ∧ x.op ≤ 9223372036854775807) ∧ (-9223372036854775808 ≤ x.n ∧ x.n ≤ 9223372036854775807) ∧ (-9223372036854775808 ≤ x.t ∧ x.t ≤ 9223372036854775807)) := by
  obtain ⟨y, ⟨⟨h1, b1⟩, ⟨h2, b2⟩, h3, b3⟩, rfl⟩ := h
  simp only [rInt] at h1 h2 h3
  refine ⟨?_, wf_i64 b1, wf_i64 b2, wf_i64 b3⟩
  have e : cs = cs.take 1 ++ ((cs.drop 1).take 1 ++ (cs.drop 1).drop 1) := by simp only [List.take_append_drop]
  rw [e, h1, h2, h3]
  rfl

theorem ops_view {w : World} {v : Value} {l : List OpS} (h : Sl rOp w v l) :
    ∃ a cap, v = .slice a l.length cap ∧ ∀ k (hk : k < l.length), ∃ b off, a = some ⟨b, off, none⟩ ∧ w.cell? ⟨b, off + k * 3, none⟩ = some (.int .i64 l[k].op) ∧ w.cell? ⟨b, off + k * 3 + 1, none⟩ = some (.int .i64 l[k].n) ∧ w.cell? ⟨b, off + k * 3 + 2, none⟩ = some (.int .i64 l[k].t) ∧
      (-9223372036854775808 ≤ l[k].op ∧ l[k].op ≤ 9223372036854775807) ∧ (-9223372036854775808 ≤ l[k].n ∧ l[k].n ≤ 9223372036854775807) ∧ (-9223372036854775808 ≤ l[k].t ∧ l[k].t ≤ 9223372036854775807) := by
  obtain ⟨a, cap, h1, _, h3⟩ := h
  simp only [List.cons.injEq, and_true] at h1
  subst h1
  refine ⟨a, cap, rfl, fun k hk => ?_⟩
  obtain ⟨b, off, cs', e1, _, e3, e4⟩ := h3 k hk
  obtain ⟨rfl, b1, b2, b3⟩ := rOp_rel e4
  exact ⟨b, off, e1, e3 0 _ rfl, e3 1 _ rfl, e3 2 _ rfl, b1, b2, b3⟩

theorem rInstr_rel {w : World} {cs : List Value} {x : InstrS} (h : rInstr.rel w cs x) : ∃ ve vf, cs = [.int .i64 x.op, .int .i64 x.reg, .int .i64 x.loc, ve, vf, .bool x.ne, .int .i64 x.goal] ∧ Sl rOp w ve x.e ∧ Sl rOp w vf x.f ∧
    ((-9223372036854775808 ≤ x.op ∧ x.op ≤ 9223372036854775807) ∧ (-9223372036854775808 ≤ x.reg ∧ x.reg ≤ 9223372036854775807) ∧ (-9223372036854775808 ≤ x.loc ∧ x.loc ≤ 9223372036854775807) ∧ (-9223372036854775808 ≤ x.goal ∧ x.goal ≤ 9223372036854775807)) := by
  obtain ⟨y, ⟨⟨h1, b1⟩, ⟨h2, b2⟩, ⟨h3, b3⟩, h4, h5, h6, h7, b7⟩, rfl⟩ := h
  obtain ⟨a4, c4, e4, r4⟩ := h4
  obtain ⟨a5, c5, e5, r5⟩ := h5
  simp only [rInt, rBool, rOps, rSlice] at h1 h2 h3 e4 e5 h6 h7
  refine ⟨_, _, ?_, ⟨a4, c4, rfl, r4⟩, ⟨a5, c5, rfl, r5⟩, wf_i64 b1, wf_i64 b2, wf_i64 b3, wf_i64 b7⟩
  have e : cs = cs.take 1 ++ ((cs.drop 1).take 1 ++ (((cs.drop 1).drop 1).take 1 ++ ((((cs.drop 1).drop 1).drop 1).take 1 ++ (((((cs.drop 1).drop 1).drop 1).drop 1).take 1 ++ ((((((cs.drop 1).drop 1).drop 1).drop 1).drop 1).take 1 ++ (((((cs.drop 1).drop 1).drop 1).drop 1).drop 1).drop 1))))) := by
    simp only [List.take_append_drop]
  rw [e, h1, h2, h3, e4, e5, h6, h7]
  rfl

theorem instrs_view {w : World} {v : Value} {l : List InstrS} (h : Sl rInstr w v l) :
    ∃ a cap, v = .slice a l.length cap ∧ ∀ k (hk : k < l.length), ∃ b off ve vf, a = some ⟨b, off, none⟩ ∧ w.cell? ⟨b, off + k * 7, none⟩ = some (.int .i64 l[k].op) ∧ w.cell? ⟨b, off + k * 7 + 1, none⟩ = some (.int .i64 l[k].reg) ∧ w.cell? ⟨b, off + k * 7 + 2, none⟩ = some (.int .i64 l[k].loc) ∧
      w.cell? ⟨b, off + k * 7 + 3, none⟩ = some ve ∧ w.cell? ⟨b, off + k * 7 + 4, none⟩ = some vf ∧ w.cell? ⟨b, off + k * 7 + 5, none⟩ = some (.bool l[k].ne) ∧ w.cell? ⟨b, off + k * 7 + 6, none⟩ = some (.int .i64 l[k].goal) ∧ Sl rOp w ve l[k].e ∧ Sl rOp w vf l[k].f ∧
      (-9223372036854775808 ≤ l[k].op ∧ l[k].op ≤ 9223372036854775807) ∧ (-9223372036854775808 ≤ l[k].reg ∧ l[k].reg ≤ 9223372036854775807) ∧ (-9223372036854775808 ≤ l[k].loc ∧ l[k].loc ≤ 9223372036854775807) ∧ (-9223372036854775808 ≤ l[k].goal ∧ l[k].goal ≤ 9223372036854775807) := by
  obtain ⟨a, cap, h1, _, h3⟩ := h
  simp only [List.cons.injEq, and_true] at h1
  subst h1
  refine ⟨a, cap, rfl, fun k hk => ?_⟩
  obtain ⟨b, off, cs', e1, _, e3, e4⟩ := h3 k hk
  obtain ⟨ve, vf, rfl, s1, s2, b1, b2, b3, b4⟩ := rInstr_rel e4
  exact ⟨b, off, ve, vf, e1, e3 0 _ rfl, e3 1 _ rfl, e3 2 _ rfl, e3 3 _ rfl, e3 4 _ rfl, e3 5 _ rfl, e3 6 _ rfl, s1, s2, b1, b2, b3, b4⟩

/-- A slice of slices. -/
theorem slices_view {α : Type} {r : Rd α} {w : World} {v : Value} {l : List (List α)} (h : Sl (rSlice r) w v l) :
    ∃ a cap, v = .slice a l.length cap ∧ ∀ k (hk : k < l.length), ∃ b off u, a = some ⟨b, off, none⟩ ∧ w.cell? ⟨b, off + k, none⟩ = some u ∧ Sl r w u l[k] := by
  obtain ⟨a, cap, h1, _, h3⟩ := h
  simp only [List.cons.injEq, and_true] at h1
  subst h1
  refine ⟨a, cap, rfl, fun k hk => ?_⟩
  obtain ⟨b, off, cs', e1, _, e3, e4⟩ := h3 k hk
  obtain ⟨a2, c2, e5, r5⟩ := e4
  subst e5
  have h0 := e3 0 _ rfl
  exact ⟨b, off, _, e1, by simpa [rSlice] using h0, a2, c2, rfl, r5⟩

/-- A unit's value. -/
def UnitV (w : World) (v : Value) (u : UnitS) : Prop := ∃ vi vr vc, v = .agg #[.int .i64 u.mod, vi, vr, vc] ∧ Sl rI w vi u.init ∧ Sl rI w vr u.regs ∧ Sl rInstrs w vc u.code ∧ -9223372036854775808 ≤ u.mod ∧ u.mod ≤ 9223372036854775807

theorem UnitV.mono {w w' : World} {v : Value} {u : UnitS} (h : UnitV w v u) (hb : Below w.heap.size w w') : UnitV w' v u := by
  obtain ⟨vi, vr, vc, h0, h1, h2, h3, h4⟩ := h
  exact ⟨vi, vr, vc, h0, h1.mono (mono_int _) hb, h2.mono (mono_int _) hb, h3.mono mono_instrs hb, h4⟩

theorem four {cs : List Value} {a b c d : List Value} (h1 : cs.take 1 = a) (h2 : (cs.drop 1).take 1 = b) (h3 : ((cs.drop 1).drop 1).take 1 = c) (h4 : ((cs.drop 1).drop 1).drop 1 = d) : cs = a ++ (b ++ (c ++ d)) := by
  rw [← h1, ← h2, ← h3, ← h4]
  simp only [List.take_append_drop]

theorem unit_of {w : World} {cs : Array Value} {u : UnitS} (h : rUnit.rel w cs.toList u) : UnitV w (.agg cs) u := by
  obtain ⟨cs⟩ := cs
  obtain ⟨y, ⟨⟨h1, b1⟩, h2, h3, h4⟩, rfl⟩ := h
  obtain ⟨a2, c2, e2, r2⟩ := h2
  obtain ⟨a3, c3, e3, r3⟩ := h3
  obtain ⟨a4, c4, e4, r4⟩ := h4
  simp only [rInt, rInts, rSlice] at h1 e2 e3 e4
  have e := four h1 e2 e3 e4
  subst e
  exact ⟨_, _, _, rfl, ⟨a2, c2, rfl, r2⟩, ⟨a3, c3, rfl, r3⟩, ⟨a4, c4, rfl, r4⟩, wf_i64 b1⟩

/-- A configuration's value. -/
def ConfV (w : World) (v : Value) (c : ConfS) : Prop := ∃ vp vr vm vb, v = .agg #[vp, vr, vm, vb] ∧ Sl rI w vp c.pc ∧ Sl rInts w vr c.regs ∧ Sl rI w vm c.mem ∧ Sl rEntries w vb c.buf

theorem ConfV.mono {w w' : World} {v : Value} {c : ConfS} (h : ConfV w v c) (hb : Below w.heap.size w w') : ConfV w' v c := by
  obtain ⟨vp, vr, vm, vb, h0, h1, h2, h3, h4⟩ := h
  exact ⟨vp, vr, vm, vb, h0, h1.mono (mono_int _) hb, h2.mono mono_ints hb, h3.mono (mono_int _) hb, h4.mono mono_entries hb⟩

end Go.Proofs.Ytmaklniljnbokaa
end

section
namespace Go.Proofs.Ytmaklniljnbokaa
open Go.RowKit
set_option linter.unusedVariables false
set_option linter.unusedSimpArgs false

/-- The cells that there are. -/
def SAll (w : World) (b o : Nat) : Prop := ∃ u, stay w b o = some u

/-- Cells that read as a thing stand for its interpreter's cells. -/
def Enc {α : Type} (r : Rd α) (enc : α → List AV) : Prop := ∀ (w : World) (cs : List Value) (x : α), r.rel w cs x → Reps (SAll w) w [] [] (enc x) cs ∧ Ones cs

theorem enc_int (k : IntKind) : Enc (rInt k) (fun n => [.int k n]) := by
  rintro w cs x ⟨rfl, h⟩
  exact ⟨.cons _ _ _ _ _ _ (.int _ _ _ _ h) (.nil _ _), by intro v hv; simp at hv; subst hv; rfl⟩
theorem enc_bool : Enc rBool (fun b => [.bool b]) := by
  rintro w cs x rfl
  exact ⟨.cons _ _ _ _ _ _ (.bool _ _ _) (.nil _ _), by intro v hv; simp at hv; subst hv; rfl⟩
theorem enc_pair {α β : Type} {r : Rd α} {s : Rd β} {f : α → List AV} {g : β → List AV} (hf : Enc r f) (hg : Enc s g) : Enc (rPair r s) (fun x => f x.1 ++ g x.2) := by
  rintro w cs x ⟨h1, h2⟩
  obtain ⟨a1, a2⟩ := hf _ _ _ h1
  obtain ⟨b1, b2⟩ := hg _ _ _ h2
  have := a1.append b1
  rw [List.take_append_drop] at this
  refine ⟨this, fun v hv => ?_⟩
  rw [← List.take_append_drop r.size cs, List.mem_append] at hv
  exact hv.elim (a2 v) (b2 v)
theorem enc_map {α β : Type} {r : Rd α} {f : α → β} {g : α → List AV} {g' : β → List AV} (he : ∀ x, g' (f x) = g x) (h : Enc r g) : Enc (rMap f r) g' := by
  rintro w cs x ⟨y, h1, rfl⟩
  rw [he]; exact h _ _ _ h1
theorem repss_of {S : Nat → Nat → Prop} {w : World} : ∀ {els : List (List AV)} {vss : List (List Value)}, els.length = vss.length → (∀ (k : Nat) (el : List AV) (vs : List Value), els[k]? = some el → vss[k]? = some vs → Reps S w [] [] el vs ∧ Ones vs) → Repss S w els vss
  | [], [], _, _ => .nil
  | el :: els, vs :: vss, hl, h => .cons _ _ _ _ (h 0 el vs rfl rfl).1 (h 0 el vs rfl rfl).2 (repss_of (by simpa using hl) fun k a b h1 h2 => h (k + 1) a b (by simpa using h1) (by simpa using h2))
theorem enc_slice {α : Type} {r : Rd α} {f : α → List AV} (hf : Enc r f) : Enc (rSlice r) (fun l => [.sl r.size (l.map f)]) := by
  rintro w cs l ⟨a, cap, rfl, hc, hi⟩
  obtain ⟨vss, hlen, hv⟩ := list_of (n := l.length) (p := fun k cs' => ∃ hk : k < l.length, ∃ b off, a = some ⟨b, off, none⟩ ∧ cs'.length = r.size ∧ (∀ j u, cs'[j]? = some u → w.cell? ⟨b, off + k * r.size + j, none⟩ = some u) ∧ r.rel w cs' l[k]) (fun k hk => by
    obtain ⟨b, off, cs', h⟩ := hi k hk
    exact ⟨cs', hk, b, off, h⟩)
  have hrep : Repss (SAll w) w (l.map f) vss := by
    refine repss_of (by rw [List.length_map, hlen]) fun k el vs h1 h2 => ?_
    obtain ⟨hk2, rfl⟩ := List.getElem?_eq_some_iff.1 h2
    obtain ⟨hk, b, off, _, _, _, h6⟩ := hv k hk2
    rw [List.getElem?_map, List.getElem?_eq_getElem hk] at h1
    simp at h1; subst h1
    exact hf _ _ _ h6
  refine ⟨.cons _ _ _ _ _ _ ?_ (.nil _ _), by intro v hv; simp at hv; subst hv; rfl⟩
  have := Rep.sl (S := SAll w) (w := w) [] [] r.size (l.map f) vss a cap hrep ⟨fun vs hm => ?_, fun j vs t u h1 h2 => ?_⟩ (by rw [List.length_map]; exact hc)
  · rw [List.length_map] at this; exact this
  · obtain ⟨k, hk, rfl⟩ := List.getElem_of_mem hm
    obtain ⟨_, _, _, _, h, _⟩ := hv k hk
    exact h
  · obtain ⟨hk2, rfl⟩ := List.getElem?_eq_some_iff.1 h1
    obtain ⟨hk, b, off, h4, h5, h6, _⟩ := hv j hk2
    exact ⟨b, off, h4, ⟨_, (stay_of_cell (h6 t u h2)).choose_spec⟩, h6 t u h2⟩

/-- A law's call, by the interpreter. -/
theorem law_calls {X : Ext} (hX : SoundExt Try.prog X) {n : Nat} {g : FuncId} {args : List AV} {W : World} {vs : List Value} (h : callN Try.prog HH X n g args [] = some (.bool true, [])) (hr : Reps (SAll W) W [] [] args vs) : Calls Try.prog g vs.toArray W fun e w' => e = .returned (.bool true) ∧ Below W.heap.size W w' := by
  refine (cN_sound hX n false g args [] _ _ h W.heap.size (SAll W) W [] vs ⟨rfl, Nat.le_refl _, fun _ _ ⟨u, hu⟩ => ⟨u, hu, fun hb => absurd (stay_lt hu) (by omega)⟩, fun id o ho => by simp at ho, fun i j b hi => by simp [blockAt] at hi⟩ hr).mono ?_
  rintro e w' ⟨u, S', φ', rfl, hu, _, ht⟩
  exact ⟨by rw [hu.bool_inv], ht.below⟩
/-- A known contract that yields a fixed value of one cell. -/
theorem stay_below {w w' : World} (hb : Below w.heap.size w w') {b o : Nat} (h : ∃ u, stay w b o = some u) : stay w' b o = stay w b o := by
  obtain ⟨u, hu⟩ := h
  exact stay_heap (hb.block b (stay_lt hu)) o
theorem SAll.ext {w w' : World} (hb : Below w.heap.size w w') : SExt (SAll w) w (SAll w') w' := fun b o h => ⟨by
  have := stay_below hb h
  obtain ⟨u, hu⟩ := h
  exact ⟨u, this.trans hu⟩, stay_below hb h⟩
theorem sext_below {S : Nat → Nat → Prop} {w w' : World} (hc : ∀ b o, S b o → ∃ u, stay w b o = some u) (hb : Below w.heap.size w w') : SExt S w S w' ∧ ∀ b o, S b o → ∃ u, stay w' b o = some u ∧ (w.heap.size ≤ b → u.2.2 = (0, 0)) :=
  ⟨fun b o h => ⟨h, stay_below hb (hc b o h)⟩, fun b o h => by
    obtain ⟨u, hu⟩ := hc b o h
    exact ⟨u, (stay_below hb ⟨u, hu⟩).trans hu, fun hb => absurd (stay_lt hu) (by omega)⟩⟩
end Go.Proofs.Ytmaklniljnbokaa
end

section
namespace Go.Proofs.Ytmaklniljnbokaa
open Go.RowKit
set_option linter.unusedVariables false
set_option linter.unusedSimpArgs false

/-- What stands for a thing's interpreter's cells reads as that thing. -/
def Dec {α : Type} (r : Rd α) (enc : α → List AV) : Prop := (∀ x, (enc x).length = r.size) ∧ ∀ (S : Nat → Nat → Prop) (w : World) (cs : List Value) (x : α), Reps S w [] [] (enc x) cs → r.rel w cs x

theorem dec_int (k : IntKind) : Dec (rInt k) (fun n => [.int k n]) := ⟨fun _ => rfl, fun S w cs x h => by
  cases h with | cons _ _ _ _ _ _ h t => cases h with | int _ _ _ _ h => cases t with | nil => exact ⟨rfl, h⟩⟩
theorem dec_bool : Dec rBool (fun b => [.bool b]) := ⟨fun _ => rfl, fun S w cs x h => by
  cases h with | cons _ _ _ _ _ _ h t => cases h with | bool _ _ _ => cases t with | nil => exact rfl⟩
theorem dec_pair {α β : Type} {r : Rd α} {s : Rd β} {f : α → List AV} {g : β → List AV} (hf : Dec r f) (hg : Dec s g) : Dec (rPair r s) (fun x => f x.1 ++ g x.2) := by
  refine ⟨fun x => by rw [List.length_append, hf.1, hg.1]; rfl, fun S w cs x h => ⟨?_, ?_⟩⟩
  · have := h.take r.size
    rw [List.take_append_of_le_length (by rw [hf.1]; exact Nat.le_refl _), ← hf.1 x.1, List.take_length] at this
    rw [hf.1 x.1] at this
    exact hf.2 _ _ _ _ this
  · have := h.drop r.size
    rw [← hf.1 x.1, List.drop_left, hf.1 x.1] at this
    exact hg.2 _ _ _ _ this
theorem dec_map {α β : Type} {r : Rd α} {f : α → β} {g : α → List AV} {g' : β → List AV} (he : ∀ y, ∃ x, f x = y ∧ g' y = g x) (h : Dec r g) : Dec (rMap f r) g' := by
  refine ⟨fun y => ?_, fun S w cs y hy => ?_⟩
  · obtain ⟨x, rfl, h2⟩ := he y; rw [h2]; exact h.1 x
  · obtain ⟨x, rfl, h2⟩ := he y
    rw [h2] at hy
    exact ⟨x, h.2 _ _ _ _ hy, rfl⟩
theorem dec_slice {α : Type} {r : Rd α} {f : α → List AV} (hf : Dec r f) (hpos : 0 < r.size) : Dec (rSlice r) (fun l => [.sl r.size (l.map f)]) := by
  refine ⟨fun _ => rfl, fun S w cs l h => ?_⟩
  cases h with | cons _ _ _ _ _ _ h t => cases t with | nil =>
  obtain ⟨vss, a, cap, hr, hl, hc, rfl⟩ := h.sl_inv
  rw [List.length_map] at hc ⊢
  refine ⟨a, cap, rfl, hc, fun k hk => ?_⟩
  obtain ⟨vs, h1, h2, h3⟩ := hr.get (i := k) (el := f l[k]) (by rw [List.getElem?_map, List.getElem?_eq_getElem hk]; rfl)
  have hlen := hl.1 vs (List.mem_of_getElem? h1)
  obtain ⟨u, hu⟩ : ∃ u, vs[0]? = some u := ⟨_, List.getElem?_eq_getElem (by omega)⟩
  obtain ⟨b, o, ha, _⟩ := hl.2 k vs 0 u h1 hu
  subst ha
  refine ⟨b, o, vs, rfl, hlen, fun j u hj => ?_, hf.2 _ _ _ _ h2⟩
  obtain ⟨b', o', he, _, hx⟩ := hl.2 k vs j u h1 hj
  cases he
  exact hx

/-- A table of known contracts. -/
abbrev ExtT := List (FuncId × (List AV → Option AV))
def extOf : ExtT → Ext
  | [], _ => none
  | (g, k) :: l, f => match Nat.beq g f with
    | true => some k
    | false => extOf l f
def SoundK (P : Program) (g : FuncId) (k : List AV → Option AV) : Prop := ∀ (args : List AV) (v : AV), k args = some v → ∀ (S : Nat → Nat → Prop) (w : World) (vs : List Value), (∀ b o, S b o → ∃ u, stay w b o = some u) → Reps S w [] [] args vs →
  Calls P g vs.toArray w fun e w' => ∃ u S', e = .returned u ∧ Rep S' w' [] [] v u ∧ (∀ b o, S' b o → ∃ u, stay w' b o = some u ∧ (w.heap.size ≤ b → u.2.2 = (0, 0))) ∧ SExt S w S' w' ∧ (∀ b o, S' b o → S b o ∨ w.heap.size ≤ b) ∧ Below w.heap.size w w'
theorem sound_extOf {P : Program} : ∀ {l : ExtT}, (∀ p ∈ l, SoundK P p.1 p.2) → SoundExt P (extOf l)
  | [], _ => fun g k h => by simp [extOf] at h
  | (g, k) :: l, hl => fun f k' h => by
    simp only [extOf] at h
    split at h
    · rename_i he
      have he := Nat.eq_of_beq_eq_true he
      cases h
      have := hl (g, k) (by simp)
      rw [← he]; exact this
    · exact sound_extOf (fun p hp => hl p (by simp [hp])) f k' h
/-- A function that tells of one thing a bool. -/
noncomputable def tellK {α : Type} (enc : α → AV) (f : α → Bool) (args : List AV) : Option AV := by
  classical
  exact if h : ∃ x, args = [enc x] then some (.bool (f h.choose)) else none
theorem tellK_eq {α : Type} {enc : α → AV} {f : α → Bool} (hi : ∀ x y, enc x = enc y → x = y) (x : α) : tellK enc f [enc x] = some (.bool (f x)) := by
  have h : ∃ y, [enc x] = [enc y] := ⟨x, rfl⟩
  unfold tellK
  rw [dif_pos h]
  exact congrArg (fun z => some (AV.bool (f z))) (hi _ _ (List.cons.inj h.choose_spec).1).symm
def BoolBelow' (b : Bool) (w : World) (e : Ending) (w' : World) : Prop := e = .returned (.bool b) ∧ Below w.heap.size w w'
theorem sound_tell {P : Program} {g : FuncId} {α : Type} {enc : α → AV} {f : α → Bool} {V : World → Value → α → Prop} (hd : ∀ S w v x, Rep S w [] [] (enc x) v → V w v x) (hc : ∀ x v w, V w v x → Calls P g #[v] w (BoolBelow' (f x) w)) : SoundK P g (tellK enc f) := by
  intro args v h S w vs hS hr
  unfold tellK at h
  split at h
  · rename_i hx
    cases h
    have := hx.choose_spec
    generalize hx.choose = x at *
    subst this
    cases hr with | cons _ _ _ u _ _ h1 t => cases t with | nil =>
    refine (hc x u w (hd _ _ _ _ h1)).mono ?_
    rintro e w' ⟨rfl, hb⟩
    obtain ⟨k1, k2⟩ := sext_below hS hb
    exact ⟨_, S, rfl, .bool _ _ _, k2, k1, fun _ _ h => .inl h, hb⟩
  · cases h
end Go.Proofs.Ytmaklniljnbokaa
end

section
namespace Go.Proofs.Ytmaklniljnbokaa
set_option linter.unusedVariables false

theorem bif_split {α : Type} {c : Bool} {a b r : α} (h1 : c = true → a = r) (h2 : c = false → b = r) : (bif c then a else b) = r := by
  cases c
  · exact h2 rfl
  · exact h1 rfl
theorem cont_eq {ρ : Type} {cont : Tm → Hp → Option ρ} {tm tm' : Tm} {hp hp' : Hp} {r : Option ρ} (h : cont tm' hp' = r) (h1 : tm = tm') (h2 : hp = hp') : cont tm hp = r := by rw [h1, h2]; exact h
end Go.Proofs.Ytmaklniljnbokaa
end

section
namespace Go.Proofs.Ytmaklniljnbokaa
open Go.RowKit
set_option linter.unusedVariables false
set_option linter.unusedSimpArgs false

def encI (n : Int) : List AV := [.int .i64 n]
abbrev aIs (l : List Int) : AV := .sl 1 (l.map encI)
def encRow (l : List Int) : List AV := [aIs l]
def encOp (x : OpS) : List AV := [.int .i64 x.op, .int .i64 x.n, .int .i64 x.t]
abbrev aOps (l : List OpS) : AV := .sl 3 (l.map encOp)
def encIn (x : InstrS) : List AV := [.int .i64 x.op, .int .i64 x.reg, .int .i64 x.loc, aOps x.e, aOps x.f, .bool x.ne, .int .i64 x.goal]
abbrev aIns (l : List InstrS) : AV := .sl 7 (l.map encIn)
def encThr (l : List InstrS) : List AV := [aIns l]
abbrev aCode (l : List (List InstrS)) : AV := .sl 1 (l.map encThr)
def cellsU (u : UnitS) : List AV := [.int .i64 u.mod, aIs u.init, aIs u.regs, aCode u.code]
abbrev aU (u : UnitS) : AV := .agg (cellsU u)
theorem d_int : Dec rI encI := dec_int _
theorem d_ints : Dec rInts (fun l => [aIs l]) := dec_slice d_int (by decide)
theorem d_op : Dec rOp encOp := dec_map (fun y => ⟨(y.op, y.n, y.t), rfl, rfl⟩) (dec_pair d_int (dec_pair d_int d_int))
theorem d_ops : Dec rOps (fun l => [aOps l]) := dec_slice d_op (by decide)
theorem d_instr : Dec rInstr encIn := dec_map (fun y => ⟨(y.op, y.reg, y.loc, y.e, y.f, y.ne, y.goal), rfl, rfl⟩) (dec_pair d_int (dec_pair d_int (dec_pair d_int (dec_pair d_ops (dec_pair d_ops (dec_pair dec_bool d_int))))))
theorem d_instrs : Dec rInstrs (fun l => [aIns l]) := dec_slice d_instr (by decide)
theorem d_code : Dec rCode (fun l => [aCode l]) := dec_slice d_instrs (by decide)
theorem d_unit : Dec rUnit cellsU := dec_map (fun y => ⟨(y.mod, y.init, y.regs, y.code), rfl, rfl⟩) (dec_pair d_int (dec_pair d_ints (dec_pair d_ints d_code)))
theorem map_inj {α β : Type} {f : α → β} (hf : ∀ x y, f x = f y → x = y) : ∀ {l l' : List α}, l.map f = l'.map f → l = l'
  | [], [], _ => rfl
  | [], _ :: _, h => by simp at h
  | _ :: _, [], h => by simp at h
  | a :: l, b :: l', h => by
    simp only [List.map_cons, List.cons.injEq] at h
    rw [hf _ _ h.1, map_inj hf h.2]
theorem encI_inj {x y : Int} (h : encI x = encI y) : x = y := by simpa [encI] using h
theorem aIs_inj {l l' : List Int} (h : aIs l = aIs l') : l = l' := map_inj (fun _ _ => encI_inj) (AV.sl.inj h).2
theorem encOp_inj {x y : OpS} (h : encOp x = encOp y) : x = y := by
  cases x; cases y; simp [encOp] at h; simp [h]
theorem aOps_inj {l l' : List OpS} (h : aOps l = aOps l') : l = l' := map_inj (fun _ _ => encOp_inj) (AV.sl.inj h).2
theorem encIn_inj {x y : InstrS} (h : encIn x = encIn y) : x = y := by
  cases x; cases y
  simp only [encIn, List.cons.injEq, AV.int.injEq, AV.bool.injEq, true_and, and_true] at h
  obtain ⟨h1, h2, h3, h4, h5, h6, h7⟩ := h
  simp [h1, h2, h3, h6, h7, aOps_inj h4, aOps_inj h5]
theorem aIns_inj {l l' : List InstrS} (h : aIns l = aIns l') : l = l' := map_inj (fun _ _ => encIn_inj) (AV.sl.inj h).2
theorem encThr_inj {l l' : List InstrS} (h : encThr l = encThr l') : l = l' := aIns_inj (by simpa only [encThr, List.cons.injEq, and_true] using h)
theorem aU_inj (x y : UnitS) (h : aU x = aU y) : x = y := by
  cases x; cases y
  simp only [aU, cellsU, AV.agg.injEq, List.cons.injEq, AV.int.injEq, true_and, and_true] at h
  obtain ⟨h1, h2, h3, h4⟩ := h
  simp [h1, aIs_inj h2, aIs_inj h3, map_inj (fun _ _ => encThr_inj) (AV.sl.inj h4).2]
theorem dec_unitV (S : Nat → Nat → Prop) (w : World) (v : Value) (u : UnitS) (h : Rep S w [] [] (aU u) v) : UnitV w v u := by
  obtain ⟨vs, hr, _, rfl⟩ := h.agg_inv
  exact unit_of (cs := vs.toArray) (d_unit.2 _ _ _ _ hr)
end Go.Proofs.Ytmaklniljnbokaa
end

section
namespace Go.Proofs.Ytmaklniljnbokaa
set_option linter.unusedVariables false

/-- How a loop ends: it is left, or the function returns. -/
inductive LR (τ ν : Type) where
  | out (t : τ)
  | ret (v : ν)
  deriving DecidableEq

def LRes {ρ τ ν : Type} (K : Ex → Tm → Hp → Option ρ) (id : Nat) (tmX : τ → (Nat → Nat) → Tm) (hpX : τ → (Nat → Nat) → Hp) (encR : ν → ρ) (r : Option ρ) : LR τ ν → Prop
  | .out t => ∀ a, K (.exit id) (tmX t a) (hpX t a) = r
  | .ret v => r = some (encR v)

theorem rounds_sim {ρ σ τ ν : Type} {body : Tm → Hp → (Ex → Tm → Hp → Option ρ) → Option ρ} {keep : Nat → List Nat} {h0 : Nat} {K : Ex → Tm → Hp → Option ρ} {r : Option ρ} (id : Nat) (tmOf : σ → (Nat → Nat) → Tm) (hpOf : σ → (Nat → Nat) → Hp) (tmX : τ → (Nat → Nat) → Tm) (hpX : τ → (Nat → Nat) → Hp) (encR : ν → ρ) (L : Nat → σ → Option (LR τ ν)) (hL : ∀ s, L 0 s = none) (o : LR τ ν)
    (hround : ∀ (k : Nat) (s : σ) (a : Nat → Nat) (K' : Ex → Tm → Hp → Option ρ) (cont : Tm → Hp → Option ρ), (∀ tm hp, K' .ret tm hp = K .ret tm hp) → (∀ s' a', L k s' = some o → cont (tmOf s' a') (hpOf s' a') = r) → L (k + 1) s = some o → LRes K' id tmX hpX encR r o →
      forceL force (fun tm => forceHp (fun hp => body tm hp (fun e tm hp => forceL force (fun tm => forceHp (fun hp => match e with
        | .normal => cont tm hp
        | .exit id => K' (.exit id) tm hp
        | .ret => K' .ret tm hp) (waneHp h0 hp)) (keepTm (keep (exMode e)) h0 hp 0 tm))) (hpOf s a)) (tmOf s a) = r) :
    ∀ (n : Nat) (s : σ) (a : Nat → Nat) (tm : Tm) (hp : Hp), L n s = some o → LRes K id tmX hpX encR r o → tm = tmOf s a → hp = hpOf s a → rounds body keep h0 n tm hp K = r := by
  intro n
  induction n with
  | zero => intro s a tm hp h; rw [hL] at h; cases h
  | succ n ih =>
    intro s a tm hp h hr h1 h2
    subst h1; subst h2
    unfold rounds
    have := hround n s a K (fun tm hp => rounds body keep h0 n tm hp K) (fun _ _ => rfl) (fun s' a' h' => ih s' a' _ _ h' hr rfl rfl) h hr
    rw [forceL_eq force_eq, forceHp_eq] at this
    exact this

def encBl (b : Bool) : List AV := [.bool b]
def encS (s : List UInt8) : List AV := [.str s]
/-- A struct's fields. -/
def fieldsOf (P : Program) (t : TypeId) : List Field := match P.underlying t with
  | some (.struct fs) => fs.toList
  | _ => []
theorem chk_some {α : Type} {c : Bool} {a : Option α} {r : α} (h : (bif c then a else none) = some r) : c = true ∧ a = some r := by
  cases c
  · cases h
  · exact ⟨rfl, h⟩
theorem bind_some {α β : Type} {o : Option α} {f : α → Option β} {r : β} (h : o.bind f = some r) : ∃ x, o = some x ∧ f x = some r := by
  cases o with
  | none => cases h
  | some x => exact ⟨x, rfl, h⟩

theorem chk_some2 {α : Type} {c : Bool} {a : Option α} {r : α} {G : Prop} (h : (bif c then a else none) = some r) (h1 : c = true → a = some r → G) : G := h1 (chk_some h).1 (chk_some h).2
theorem bind_some2 {α β : Type} {o : Option α} {f : α → Option β} {r : β} {G : Prop} (h : o.bind f = some r) (k : ∀ x, o = some x → f x = some r → G) : G := by
  obtain ⟨x, h1, h2⟩ := bind_some h
  exact k x h1 h2

/-- An element by its place. -/
def idx {α : Type} (l : List α) (i : Int) : Option α := bif decide (0 ≤ i) then l[i.toNat]? else none
theorem idx_lt {α : Type} {l : List α} {i : Int} {x : α} (h : idx l i = some x) : 0 ≤ i ∧ i < l.length ∧ l[i.toNat]? = some x := by
  unfold idx at h
  by_cases h0 : 0 ≤ i
  · rw [decide_eq_true h0] at h
    have := (List.getElem?_eq_some_iff.1 h).1
    exact ⟨h0, by omega, h⟩
  · rw [decide_eq_false h0] at h; cases h
theorem idx_in {α : Type} {l : List α} {i : Int} {x : α} (h : idx l i = some x) : (decide (0 ≤ i) && decide (i < (l.length : Int))) = true := by
  obtain ⟨h1, h2, _⟩ := idx_lt h
  rw [decide_eq_true h1, decide_eq_true h2]; rfl
theorem idx_in' {α β : Type} {l : List α} {f : α → β} {i : Int} {x : α} (h : idx l i = some x) : (decide (0 ≤ i) && decide (i < ((l.map f).length : Int))) = true := by
  rw [List.length_map]; exact idx_in h
theorem idx_nth {α : Type} {f : α → List AV} {l : List α} {i : Int} {x : α} (h : idx l i = some x) : nth? (l.map f) i.toNat = some (f x) := by
  rw [nth?_eq, List.getElem?_map, (idx_lt h).2.2]; rfl
theorem idx_str {l : List UInt8} {i : Int} {x : UInt8} (h : idx l i = some x) : nth? l i.toNat = some x := by rw [nth?_eq, (idx_lt h).2.2]
theorem idx_nat {α : Type} (l : List α) (k : Nat) : idx l (k : Int) = l[k]? := by simp [idx]

theorem app_row {n a a' k k' b B : Nat} (h : decide ((a + k) * B ≤ 140737488355328) = true) (hn : n = a) (ha : a' = a) (hk : k' = k) (hb : b + 1 = B) : (decide (n = a') && decide ((a' + k') * (b + 1) ≤ 140737488355328)) = true := by
  subst hn; subst ha; subst hk; rw [hb, h]; simp
theorem app_row2 {a a' k k' b B : Nat} (h : decide ((a + k) * B ≤ 140737488355328) = true) (ha : a' = a) (hk : k' = k) (hb : b + 1 = B) : (decide True && decide ((a' + k') * (b + 1) ≤ 140737488355328)) = true := by
  subst ha; subst hk; rw [hb, h]; simp
theorem take_map_len {α β : Type} (f : α → β) (l : List α) : List.take l.length (List.map f l) = List.map f l := List.take_of_length_le (by rw [List.length_map]; exact Nat.le_refl _)
theorem kont_eq {ρ : Type} {K : Ex → Tm → Hp → Option ρ} {e : Ex} {tm tm' : Tm} {hp hp' : Hp} {r : Option ρ} (h : K e tm' hp' = r) (h1 : tm = tm') (h2 : hp = hp') : K e tm hp = r := by rw [h1, h2]; exact h
/-- A row with another one laid into it. -/
def copyL {α : Type} (l : List α) (off n : Nat) (src : List α) : List α := if off + n ≤ l.length then List.take off l ++ (List.take n src ++ List.drop (off + Nat.min src.length n) l) else l
theorem length_copyL {α : Type} {l : List α} {off n : Nat} {src : List α} : (copyL l off n src).length = l.length := by
  unfold copyL
  split
  · have : Nat.min src.length n = min src.length n := rfl
    simp only [List.length_append, List.length_take, List.length_drop, this]; omega
  · rfl
theorem dec_self (n : Nat) : decide (n = n) = true := by simp

end Go.Proofs.Ytmaklniljnbokaa
end

section
namespace Go.Proofs.Ytmaklniljnbokaa
set_option linter.unusedVariables false
structure S_api_Result where
  f_Holds : Bool
  f_Has : Bool
  f_Path : (List Int)
  deriving DecidableEq, Inhabited
def c_api_Result (x : S_api_Result) : List AV := [AV.bool (x.f_Holds), AV.bool (x.f_Has), AV.sl 1 (List.map encI (x.f_Path))]
structure S_api_Verdict where
  f_Outcome : Int
  f_Prefix : (List Int)
  f_Cycle : (List Int)
  f_Results : (List S_api_Result)
  f_States : Int
  f_Edges : Int
  deriving DecidableEq, Inhabited
def c_api_Verdict (x : S_api_Verdict) : List AV := [AV.int .i64 (x.f_Outcome), AV.sl 1 (List.map encI (x.f_Prefix)), AV.sl 1 (List.map encI (x.f_Cycle)), AV.sl 3 (List.map c_api_Result (x.f_Results)), AV.int .i64 (x.f_States), AV.int .i64 (x.f_Edges)]
theorem ls : (∀ {α β : Type} {f : α → β} {l : List α}, (l.map f).length = l.length) ∧ (∀ {α β : Type} (f : α → β) (l : List α), List.take l.length (List.map f l) = List.map f l) ∧ Program.cellsOf Try.prog 57 = 1 ∧ Program.cellsOf Try.prog 22 = 1 ∧ Program.cellsOf Try.prog 60 = 7 ∧ Program.cellsOf Try.prog 70 = 3 ∧ Program.cellsOf Try.prog 41 = 3 ∧ Program.cellsOf Try.prog 3 = 1 ∧ Program.cellsOf Try.prog 9 = 1 ∧ Program.cellsOf Try.prog 5 = 1 :=
  ⟨List.length_map .., take_map_len, by kernel_rfl, by kernel_rfl, by kernel_rfl, by kernel_rfl, by kernel_rfl, by kernel_rfl, by kernel_rfl, by kernel_rfl⟩
theorem lt : (∀ {α β : Type} (f : α → β) (l : List α), List.take l.length (List.map f l) = List.map f l) ∧ Program.cellsOf Try.prog 57 = 1 ∧ Program.cellsOf Try.prog 22 = 1 ∧ Program.cellsOf Try.prog 60 = 7 ∧ Program.cellsOf Try.prog 70 = 3 ∧ Program.cellsOf Try.prog 41 = 3 ∧ Program.cellsOf Try.prog 3 = 1 ∧ Program.cellsOf Try.prog 9 = 1 ∧ Program.cellsOf Try.prog 5 = 1 :=
  ls.2
theorem cq {ρ : Type} {cont : Tm → Hp → Option ρ} {tm tm' : Tm} {hp hp' : Hp} {r : Option ρ} (h : cont tm' hp' = r) (h1 : tm = tm' := by first | rfl | (simp only [ls] <;> rfl) | (simp only [ls, List.map_append, List.map_cons, List.map_nil, List.append_nil, List.length_set, length_copyL] <;> rfl)) (h2 : hp = hp' := by first | rfl | (simp only [ls] <;> rfl) | (simp only [ls, List.map_append, List.map_cons, List.map_nil, List.append_nil, List.length_set, length_copyL] <;> rfl)) : cont tm hp = r := cont_eq h h1 h2
theorem kq {ρ : Type} {K : Ex → Tm → Hp → Option ρ} {e : Ex} {tm tm' : Tm} {hp hp' : Hp} {r : Option ρ} (h : K e tm' hp' = r) (h1 : tm = tm' := by first | rfl | (simp only [ls] <;> rfl) | (simp only [ls, List.map_append, List.map_cons, List.map_nil, List.append_nil, List.length_set, length_copyL] <;> rfl)) (h2 : hp = hp' := by first | rfl | (simp only [ls] <;> rfl) | (simp only [ls, List.map_append, List.map_cons, List.map_nil, List.append_nil, List.length_set, length_copyL] <;> rfl)) : K e tm hp = r := kont_eq h h1 h2
theorem fq {ρ : Type} {x y z : Option ρ} (h : x = y := by first | rfl | (simp only [length_copyL, List.length_set] <;> rfl) | (simp only [ls] <;> rfl) | ((conv => lhs; arg 1; arg 1; whnf); simp only [dec_self]; rfl) | (simp only [List.length_append, List.length_map, List.map_append, List.map_cons, List.map_nil] <;> rfl)) (h2 : y = z := by first | rfl | (simp only [List.map_take, List.map_drop]; done) | (simp only [List.map_take, List.map_drop] <;> rfl) | (simp only [ls, List.drop_zero, List.length_set, length_copyL] <;> rfl)) : x = z := h.trans h2
theorem c0 : ((0 : Nat) : Int) = 0 := rfl
theorem rq {ρ : Type} {x z : Option ρ} (h : x = z := by first | rfl | (simp only [ls] <;> rfl)) : x = z := h
abbrev iA (x : Int) : AV := .int .i64 x
abbrev bA (x : Bool) : AV := .bool x
abbrev sA (x : List UInt8) : AV := .str x
theorem sj {α : Type} {a r : α} (h : some a = some r) : a = r := Option.some.inj h
theorem lq {ρ σ τ ν : Type} {body : Tm → Hp → (Ex → Tm → Hp → Option ρ) → Option ρ} {keep : Nat → List Nat} {h0 : Nat} {K : Ex → Tm → Hp → Option ρ} {r : Option ρ} (id : Nat) (tmOf : σ → (Nat → Nat) → Tm) (hpOf : σ → (Nat → Nat) → Hp) (tmX : τ → (Nat → Nat) → Tm) (hpX : τ → (Nat → Nat) → Hp) (encR : ν → ρ) (L : Nat → σ → Option (LR τ ν)) (hL : ∀ s, L 0 s = none) (o : LR τ ν) (n : Nat) (s : σ) (a : Nat → Nat) {tm : Tm} {hp : Hp} (h : L n s = some o)
    (hround : ∀ (k : Nat) (s : σ) (a : Nat → Nat) (K' : Ex → Tm → Hp → Option ρ) (cont : Tm → Hp → Option ρ), (∀ tm hp, K' .ret tm hp = K .ret tm hp) → (∀ s' a', L k s' = some o → cont (tmOf s' a') (hpOf s' a') = r) → L (k + 1) s = some o → LRes K' id tmX hpX encR r o →
      forceL force (fun tm => forceHp (fun hp => body tm hp (fun e tm hp => forceL force (fun tm => forceHp (fun hp => match e with
        | .normal => cont tm hp
        | .exit id => K' (.exit id) tm hp
        | .ret => K' .ret tm hp) (waneHp h0 hp)) (keepTm (keep (exMode e)) h0 hp 0 tm))) (hpOf s a)) (tmOf s a) = r)
    (hx : LRes K id tmX hpX encR r o)
    (h1 : tm = tmOf s a := by first | rfl | (simp only [ls] <;> rfl) | (simp only [ls, List.map_append, List.map_cons, List.map_nil, List.append_nil, List.length_set, length_copyL] <;> rfl)) (h2 : hp = hpOf s a := by first | rfl | (simp only [ls] <;> rfl) | (simp only [ls, List.map_append, List.map_cons, List.map_nil, List.append_nil, List.length_set, length_copyL] <;> rfl)) : rounds body keep h0 n tm hp K = r :=
  rounds_sim id tmOf hpOf tmX hpX encR L hL o hround n s a tm hp h hx h1 h2
theorem lrc {ρ τ ν : Type} {K : Ex → Tm → Hp → Option ρ} {id : Nat} {tmX : τ → (Nat → Nat) → Tm} {hpX : τ → (Nat → Nat) → Hp} {encR : ν → ρ} {r : Option ρ} {o : LR τ ν} (h1 : ∀ v, o = .ret v → r = some (encR v)) (h2 : ∀ t a, o = .out t → K (.exit id) (tmX t a) (hpX t a) = r) : LRes K id tmX hpX encR r o := by
  cases o with
  | out t => exact fun a => h2 t a rfl
  | ret v => exact h1 v rfl
theorem nn {α : Type} {r : α} {P : Prop} : (none : Option α) = some r → P := fun h => by cases h
theorem chk_k {α : Type} {c : Bool} {a : Option α} {r : α} {G : Prop} (h1 : c = true → a = some r → G) : (bif c then a else none) = some r → G := fun h => chk_some2 h h1
theorem br {α ρ : Type} {c : Bool} {a b : Option α} {r : α} {L L1 L2 R : ρ} (k1 : a = some r → L1 = R) (k2 : b = some r → L2 = R) (w1 : c = true → L = L1 := by (intro hc; simp only [hc, ls]; (conv => lhs; whnf); try exact rfl)) (w2 : c = false → L = L2 := by (intro hc; simp only [hc, ls]; (conv => lhs; whnf); try exact rfl)) : (bif c then a else b) = some r → L = R := by
  cases c
  · exact fun h => (w2 rfl).trans (k2 h)
  · exact fun h => (w1 rfl).trans (k1 h)
theorem cp {α ρ : Type} {c : Bool} {a : Option α} {r : α} {L L1 R : ρ} (k1 : a = some r → L1 = R) (w1 : c = true → ∀ q, L1 = q → L = q := by (intro hc q hq; refine bif_pos hc ?_; (try simp only [ls]); (conv => lhs; whnf); exact hq)) : (bif c then a else none) = some r → L = R := chk_k fun hc h => w1 hc _ (k1 h)
theorem sl {α : Type} (f : α → List AV) (l : List α) (i j : Nat) : List.drop i (List.take j (List.map f l)) = List.map f (List.drop i (List.take j l)) := by rw [List.map_drop, List.map_take]
theorem slb {α : Type} (f : α → List AV) (l : List α) (i : Nat) : List.drop i (List.take l.length (List.map f l)) = List.map f (List.drop i (List.take l.length l)) ∧ List.drop i (List.map f l) = List.map f (List.drop i (List.take l.length l)) := ⟨sl f l i _, by rw [List.take_length, List.map_drop]⟩
theorem cs {α ρ : Type} {c : Bool} {a : Option α} {r : α} {E : Prop} {L L1 R : ρ} (e : E) (k1 : a = some r → L1 = R) (w1 : c = true → E → ∀ q, L1 = q → L = q := by (intro hc he q hq; (try simp only [ls]); refine bif_pos hc ?_; simp only [he, ls]; (conv => lhs; whnf); exact hq)) : (bif c then a else none) = some r → L = R := chk_k fun hc h => w1 hc e _ (k1 h)
theorem ixs {β ρ : Type} {l : List UInt8} {i : Int} {g : UInt8 → Option β} {r : β} {L : ρ} {L1 : UInt8 → ρ} {R : ρ} (k : ∀ x, g x = some r → L1 x = R) (w : ∀ x, idx l i = some x → ∀ q, L1 x = q → L = q := by (intro x hx q hq; refine bif_pos (idx_in hx) ?_; simp only [idx_str hx, ls]; (conv => lhs; whnf); exact hq)) : (idx l i).bind g = some r → L = R := fun h => bind_some2 h fun x hx h2 => w x hx _ (k x h2)
theorem ix {α β ρ : Type} {l : List α} {i : Int} {g : α → Option β} {r : β} {L : ρ} {L1 : α → ρ} {R : ρ} (k : ∀ x, g x = some r → L1 x = R) (w : ∀ x, idx l i = some x → ∀ q, L1 x = q → L = q := by (intro x hx q hq; refine bif_pos (by first | exact idx_in hx | exact idx_in' hx | (have z := idx_in hx; simp only [ls] at z ⊢; exact z)) ?_; simp only [idx_nth hx, ls]; (conv => lhs; whnf); exact hq)) : (idx l i).bind g = some r → L = R := fun h => bind_some2 h fun x hx h2 => w x hx _ (k x h2)
theorem ca {α β ρ : Type} {P : Program} {H : Hints} {X : Ext} {call : CallT} {n : Nat} {m : Option α} {g : α → Option β} {r : β} {f : FuncId} {a : List AV} {p : Hp} {v : α → Option (AV × Hp)} {L : ρ} {L1 : α → ρ} {R : ρ} (hc : ∀ g l h, call false g l h = callN P H X n g l h) (hk : ∀ y, m = some y → callN P H X n f a p = v y) (k : ∀ y, g y = some r → L1 y = R) (w : ∀ y, call false f a p = v y → L = L1 y := by (intro y hk; (first | simp only [hk] | rewrite [hk] | (simp only [ls]; simp only [hk])); (conv => lhs; whnf); try exact rfl)) : m.bind g = some r → L = R := fun h => bind_some2 h fun y hy h2 => (w y ((hc _ _ _).trans (hk y hy))).trans (k y h2)
theorem cr {α β ρ : Type} {P : Program} {H : Hints} {X : Ext} {call : CallT} {n : Nat} {m : Option α} {g : α → Option β} {r : β} {f : FuncId} {a : List AV} {p : Hp} {v : α → Option (AV × Hp)} {L : ρ} {L1 : α → ρ} {R : ρ} (hc : ∀ g l h, call false g l h = callN P H X n g l h) (hk : ∀ y, m = some y → callN P H X n f a p = v y) (k : ∀ y, g y = some r → L1 y = R) (w : ∀ y, call false f a p = v y → L = L1 y := by (intro y hk; (try simp only [List.length_nil, List.map_nil] at hk); (try simp only [List.length_nil, List.map_nil]); (first | ((try simp only [ls]); simp only [hk]) | ((try simp only [List.drop_zero] at hk); (try simp only [List.drop_zero, ls]); simp only [hk]) | simp only [hk] | rewrite [hk]); (try simp only [ls]); (conv => lhs; whnf); try exact rfl)) : m.bind g = some r → L = R := ca hc hk k w
theorem ap {α : Type} (f : α → List AV) (a : List (List AV)) (l : List α) (y : List (List AV)) (m : List α) (ha : a = List.map f l := by rfl) (hy : y = List.map f m := by rfl) : a ++ y = List.map f (l ++ m) ∧ a.length + y.length = (l ++ m).length ∧ l.length + y.length = (l ++ m).length ∧ l.length + m.length = (l ++ m).length ∧ a.length + m.length = (l ++ m).length := by
  subst ha; subst hy; simp
theorem ar {α ρ : Type} {c : Bool} {a : Option α} {r : α} {E : Prop} {L L1 R : ρ} (e : E) (k1 : a = some r → L1 = R) (w1 : c = true → E → ∀ q, L1 = q → L = q := by (intro hc he q hq; (first | refine bif_pos (app_row hc (by first | rfl | simp only [List.length_map]) (by first | rfl | simp only [List.length_map]) (by first | rfl | simp only [List.length_map, take_map_len]) (by kernel_rfl)) ?_ | refine bif_pos (app_row2 hc (by first | rfl | simp only [List.length_map]) (by first | rfl | simp only [List.length_map, take_map_len]) (by kernel_rfl)) ?_ | skip); (try simp only [lt]); (try simp only [he]); (try simp only [ls, c0]); (try simp only [he]); (try simp only [ls]); (conv => lhs; whnf); exact hq)) : (bif c then a else none) = some r → L = R := chk_k fun hc h => w1 hc e _ (k1 h)
theorem rz {α ρ : Type} {a r : α} {L R : ρ} (k : a = r → L = R := by (intro e; cases e; first | rfl | (simp only [ls] <;> rfl))) : some a = some r → L = R := fun h => k (sj h)
end Go.Proofs.Ytmaklniljnbokaa
end

section
namespace Go.Proofs.Ytmaklniljnbokaa
set_option linter.unusedVariables false
set_option linter.unusedSimpArgs false

def inB (n most : Int) : Bool := decide (0 ≤ n ∧ n < most)

/-- How many numbers lie there behind steps, and at most. -/
def liesGo : List OpS → Int → Int → Int × Int
  | [], n, m => (n, m)
  | x :: t, n, m =>
    if 1 ≤ x.op ∧ x.op ≤ 4 then liesGo t (n + 1) (max m (n + 1))
    else if x.op = 5 ∧ 1 ≤ n then liesGo t n (max m n)
    else if 6 ≤ x.op ∧ x.op ≤ 14 ∧ 2 ≤ n then liesGo t (n - 1) (max m (n - 1))
    else (-1, -1)
def liesL (l : List OpS) : Int × Int := liesGo l 0 0

def opOk (regs : List Int) (own locs : Int) (x : OpS) : Bool :=
  if x.op = 1 then inB x.n 10000
  else if x.op = 2 then inB x.n own
  else if x.op = 3 then inB x.n locs
  else if x.op = 4 then (match regs[x.t.toNat]? with | some m => decide (0 ≤ x.t) && inB x.n m | none => false)
  else true

def rightC (l : List OpS) (regs : List Int) (own locs : Int) : Bool := l.all (opOk regs own locs) && decide ((liesL l).1 = 1)

theorem rightC_bad {l : List OpS} {regs : List Int} {own locs : Int} {k : Nat} (hk : k < l.length) (h : opOk regs own locs l[k] = false) : rightC l regs own locs = false := by
  have : l.all (opOk regs own locs) = false := by
    rw [Bool.eq_false_iff]
    intro e
    rw [List.all_eq_true] at e
    have := e _ (List.getElem_mem hk)
    rw [h] at this
    simp at this
  simp [rightC, this]
theorem rightC_good {l : List OpS} {regs : List Int} {own locs : Int} (h : ∀ k (hk : k < l.length), opOk regs own locs l[k] = true) : rightC l regs own locs = decide ((liesL l).1 = 1) := by
  have : l.all (opOk regs own locs) = true := by
    rw [List.all_eq_true]
    intro x hx
    obtain ⟨k, hk, rfl⟩ := List.getElem_of_mem hx
    exact h k hk
  simp [rightC, this]

structure Needs where
  reg : Bool
  loc : Bool
  e : Bool
  f : Bool
  ne : Bool
  goal : Bool

/-- What kinds of instructions have. -/
def needsOf (op : Int) : Option Needs :=
  if op = 2 then some ⟨true, false, true, false, false, false⟩
  else if op = 3 then some ⟨true, true, false, false, false, false⟩
  else if op = 4 then some ⟨false, true, true, false, false, false⟩
  else if op = 5 then some ⟨true, true, true, true, false, false⟩
  else if op = 6 then some ⟨true, true, true, false, false, false⟩
  else if op = 7 then some ⟨true, true, true, false, false, false⟩
  else if op = 8 then some ⟨false, false, false, false, false, false⟩
  else if op = 9 then some ⟨false, true, true, false, true, false⟩
  else if op = 20 then some ⟨false, false, false, false, false, true⟩
  else if op = 21 then some ⟨false, false, true, false, false, true⟩
  else none

def placeB (has : Bool) (n most : Int) : Bool := if has then inB n most else decide (n = 0)
def codeB (has : Bool) (l : List OpS) (regs : Int) : Bool := if has then rightC l [] regs 0 else l.isEmpty

def instrOk (regs locs many : Int) (x : InstrS) : Bool := match needsOf x.op with
  | none => false
  | some n => (!x.ne || n.ne) && placeB n.reg x.reg regs && placeB n.loc x.loc locs && placeB n.goal x.goal many && codeB n.e x.e regs && codeB n.f x.f regs

def doneOk (x : InstrS) : Bool := decide (x.op = 22) && decide (x.reg = 0) && decide (x.loc = 0) && decide (x.goal = 0) && !x.ne && x.e.isEmpty && x.f.isEmpty

def rowOk (l : List InstrS) (regs locs : Int) : Bool :=
  decide (1 ≤ l.length ∧ l.length ≤ 1000) && (match l[l.length - 1]? with | some x => doneOk x | none => false) && (List.range (l.length - 1)).all fun i => match l[i]? with | some x => instrOk regs locs l.length x | none => true

theorem rowOk_bad {l : List InstrS} {regs locs : Int} {k : Nat} (hk : k + 1 < l.length) (h : instrOk regs locs l.length (l[k]'(by omega)) = false) : rowOk l regs locs = false := by
  have : ((List.range (l.length - 1)).all fun i => match l[i]? with | some x => instrOk regs locs l.length x | none => true) = false := by
    rw [Bool.eq_false_iff]
    intro e
    rw [List.all_eq_true] at e
    have := e k (by simp; omega)
    rw [List.getElem?_eq_getElem (by omega)] at this
    simp only [h] at this
    simp at this
  simp [rowOk, this]
theorem rowOk_last {l : List InstrS} {regs locs : Int} (hk : l.length - 1 < l.length) (h : doneOk l[l.length - 1] = false) : rowOk l regs locs = false := by
  simp [rowOk, List.getElem?_eq_getElem hk, h]
theorem rowOk_size {l : List InstrS} {regs locs : Int} (h : ¬ (1 ≤ l.length ∧ l.length ≤ 1000)) : rowOk l regs locs = false := by
  have : decide (1 ≤ l.length ∧ l.length ≤ 1000) = false := decide_eq_false h
  simp only [rowOk, this, Bool.false_and]
theorem rowOk_good {l : List InstrS} {regs locs : Int} (h1 : 1 ≤ l.length ∧ l.length ≤ 1000) (hk : l.length - 1 < l.length) (h2 : doneOk l[l.length - 1] = true) (h3 : ∀ k (hk : k + 1 < l.length), instrOk regs locs l.length (l[k]'(by omega)) = true) : rowOk l regs locs = true := by
  have : ((List.range (l.length - 1)).all fun i => match l[i]? with | some x => instrOk regs locs l.length x | none => true) = true := by
    rw [List.all_eq_true]
    intro k hk
    have hk : k + 1 < l.length := by simp at hk; omega
    rw [List.getElem?_eq_getElem (by omega)]
    exact h3 k hk
  have h4 : decide (1 ≤ l.length ∧ l.length ≤ 1000) = true := decide_eq_true h1
  simp only [rowOk, this, h4, List.getElem?_eq_getElem hk, h2, Bool.and_self]

def allIn (l : List Int) (mod : Int) : Bool := l.all fun n => inB n mod
theorem allIn_bad {l : List Int} {mod : Int} {k : Nat} (hk : k < l.length) (h : inB l[k] mod = false) : allIn l mod = false := by
  rw [Bool.eq_false_iff]
  intro e
  simp only [allIn, List.all_eq_true] at e
  have := e _ (List.getElem_mem hk)
  rw [h] at this
  simp at this
theorem allIn_good {l : List Int} {mod : Int} (h : ∀ k (hk : k < l.length), inB l[k] mod = true) : allIn l mod = true := by
  simp only [allIn, List.all_eq_true]
  intro x hx
  obtain ⟨k, hk, rfl⟩ := List.getElem_of_mem hx
  exact h k hk

/-- Is a thread's row right, with so many registers? -/
def threadOk (u : UnitS) (t : Nat) : Bool := match u.regs[t]?, u.code[t]? with
  | some n, some r => decide (0 ≤ n ∧ n ≤ 6) && rowOk r n u.init.length
  | _, _ => false

def headOk (u : UnitS) : Bool := decide (2 ≤ u.mod ∧ u.mod ≤ 16 ∧ u.init.length ≤ 6 ∧ 1 ≤ u.regs.length ∧ u.regs.length ≤ 4 ∧ u.code.length = u.regs.length)
def rightU (u : UnitS) : Bool := headOk u && allIn u.init u.mod && (List.range u.regs.length).all (threadOk u)

theorem rightU_head {u : UnitS} (h : headOk u = false) : rightU u = false := by simp [rightU, h]
theorem rightU_init {u : UnitS} (h : allIn u.init u.mod = false) : rightU u = false := by simp [rightU, h]
theorem rightU_bad {u : UnitS} {t : Nat} (ht : t < u.regs.length) (h : threadOk u t = false) : rightU u = false := by
  have : (List.range u.regs.length).all (threadOk u) = false := by
    rw [Bool.eq_false_iff]
    intro e
    rw [List.all_eq_true] at e
    have := e t (by simpa using ht)
    rw [h] at this
    simp at this
  simp [rightU, this]
theorem rightU_good {u : UnitS} (h1 : headOk u = true) (h2 : allIn u.init u.mod = true) (h3 : ∀ t, t < u.regs.length → threadOk u t = true) : rightU u = true := by
  have : (List.range u.regs.length).all (threadOk u) = true := by
    rw [List.all_eq_true]
    intro t ht
    exact h3 t (by simpa using ht)
  simp [rightU, this, h1, h2]
theorem threadOk_of {u : UnitS} {t : Nat} (h1 : t < u.regs.length) (h2 : t < u.code.length) : threadOk u t = (decide (0 ≤ u.regs[t] ∧ u.regs[t] ≤ 6) && rowOk u.code[t] u.regs[t] u.init.length) := by
  simp only [threadOk, List.getElem?_eq_getElem h1, List.getElem?_eq_getElem h2]

/-- A unit whose lists are short. -/
def lightRow (r : List InstrS) : Bool := decide (r.length ≤ 200) && r.all fun x => decide (x.e.length ≤ 300 ∧ x.f.length ≤ 300)
def lightU (u : UnitS) : Bool := decide (u.init.length ≤ 20 ∧ u.regs.length ≤ 20 ∧ u.code.length ≤ 8) && u.code.all lightRow

end Go.Proofs.Ytmaklniljnbokaa
end

section
namespace Go.Proofs.Ytmaklniljnbokaa
open Go.RowKit
set_option linter.unusedVariables false
set_option linter.unusedSimpArgs false

theorem ib_no {a b : Int} (h : a ≠ b) : (a == b) = false := by simpa using h
theorem ib_yes {a b : Int} (h : a = b) : (a == b) = true := by simpa using h
theorem in_false {n m : Int} (h : n < 0 ∨ m ≤ n) : inB n m = false := by simp only [inB, decide_eq_false_iff_not]; omega
theorem in_true {n m : Int} (h : 0 ≤ n ∧ n < m) : inB n m = true := by simp only [inB, decide_eq_true_eq]; exact h

set_option maxHeartbeats 400000 in
theorem in06_any (a b : Int) (w : World) : Calls Try.prog 56 #[.int .i64 a, .int .i64 b] w fun e w' => e = .returned (.bool (inB a b)) ∧ w = w' := by
  go_enter Try.func56, Try.ntmps56
  go_wp2
  all_goals
    go_ret
    refine ⟨congrArg (fun b => Ending.returned (.bool b)) ?_, rfl⟩
    rw [Bool.eq_iff_iff]
    simp [inB]
    try omega

def LiesPost (l : List OpS) (w : World) (e : Ending) (w' : World) : Prop := e = .returned (.tuple #[.int .i64 (liesL l).1, .int .i64 (liesL l).2]) ∧ w = w'

theorem lies_drop {l : List OpS} {k : Nat} (hk : k < l.length) (n m : Int) : liesGo (l.drop k) n m =
    if 1 ≤ l[k].op ∧ l[k].op ≤ 4 then liesGo (l.drop (k + 1)) (n + 1) (max m (n + 1))
    else if l[k].op = 5 ∧ 1 ≤ n then liesGo (l.drop (k + 1)) n (max m n)
    else if 6 ≤ l[k].op ∧ l[k].op ≤ 14 ∧ 2 ≤ n then liesGo (l.drop (k + 1)) (n - 1) (max m (n - 1))
    else (-1, -1) := by
  rw [List.drop_eq_getElem_cons hk, liesGo]

set_option maxRecDepth 100000 in
set_option maxHeartbeats 4000000 in
theorem lies06_any (l : List OpS) (v : Value) (w : World) (hv : Sl rOp w v l) : Calls Try.prog 63 #[v] w (LiesPost l w) := by
  have hl := hv.len
  obtain ⟨a, c, rfl, hc⟩ := ops_view hv
  have HC := Lib.hid hc; clear hc hv
  go_enter Try.func63, Try.ntmps63
  go_wp2
  go_loop [4, 5, 6] (fun n m i => ∃ (k : Nat) (nn mm : Int), i = .int .i64 k ∧ n = .int .i64 nn ∧ m = .int .i64 mm ∧ k ≤ l.length ∧ 0 ≤ nn ∧ nn ≤ k ∧ 0 ≤ mm ∧ mm ≤ k ∧ liesGo (l.drop k) nn mm = liesL l) (fun _ _ i => l.length - (intOf i).toNat)
  case atStart => exact ⟨0, 0, 0, rfl, rfl, rfl, by omega, by omega, by omega, by omega, by omega, rfl⟩
  case round =>
    obtain ⟨k, nn, mm, rfl, rfl, rfl, hk, hn1, hn2, hm1, hm2, hrel⟩ := hrel
    have HR := Lib.hid hrel; clear hrel
    by_cases hlt : k < l.length
    · obtain ⟨b, o, rfl, x1, _, _, _⟩ := HC.out k hlt
      have HD := Lib.hid (lies_drop hlt nn mm)
      obtain ⟨op, hop⟩ : ∃ op, l[k].op = op := ⟨_, rfl⟩
      rw [hop] at x1 HD
      clear hop
      by_cases c1 : 1 ≤ op ∧ op ≤ 4
      · obtain ⟨c1a, c1b⟩ := c1
        go_wp2
        all_goals
          go_round
          case rel => exact ⟨k + 1, nn + 1, max mm (nn + 1), by go_num, by go_num, by go_num, by omega, by omega, by omega, by omega, by omega, by rw [← HR.out, HD.out, if_pos ⟨c1a, c1b⟩]⟩
          case measure => simp [intOf]; omega
      · by_cases c2 : op = 5 ∧ 1 ≤ nn
        · obtain ⟨c2a, c2b⟩ := c2
          subst c2a
          go_wp2
          all_goals
            go_round
            case rel => exact ⟨k + 1, nn, max mm nn, by go_num, by go_num, by go_num, by omega, by omega, by omega, by omega, by omega, by rw [← HR.out, HD.out, if_neg c1, if_pos ⟨rfl, c2b⟩]⟩
            case measure => simp [intOf]; omega
        · by_cases c3 : 6 ≤ op ∧ op ≤ 14 ∧ 2 ≤ nn
          · obtain ⟨c3a, c3b, c3c⟩ := c3
            have d5 : (op == 5) = false := ib_no (by omega)
            go_wp2
            all_goals
              go_round
              case rel => exact ⟨k + 1, nn - 1, max mm (nn - 1), by go_num, by go_num, by go_num, by omega, by omega, by omega, by omega, by omega, by rw [← HR.out, HD.out, if_neg c1, if_neg c2, if_pos ⟨c3a, c3b, c3c⟩]⟩
              case measure => simp [intOf]; omega
          · have HF := Lib.hid (show liesL l = (-1, -1) by rw [← HR.out, HD.out, if_neg c1, if_neg c2, if_neg c3])
            have hd5 : op = 5 ∨ op ≠ 5 := by omega
            rcases hd5 with h5 | h5
            · subst h5
              have hnn : nn < 1 := by omega
              clear c1 c2 c3
              go_wp2
              go_ret2
              exact ⟨by rw [HF.out]; rfl, rfl⟩
            · have d5 : (op == 5) = false := ib_no h5
              by_cases h1 : op < 1
              · clear c1 c2 c3 h5
                go_wp2
                go_ret2
                exact ⟨by rw [HF.out]; rfl, rfl⟩
              · by_cases h14 : 14 < op
                · clear c1 c2 c3 h5
                  go_wp2
                  go_ret2
                  exact ⟨by rw [HF.out]; rfl, rfl⟩
                · have h6 : 6 ≤ op := by omega
                  have h2 : nn < 2 := by omega
                  clear c1 c2 c3 h5
                  go_wp2
                  go_ret2
                  exact ⟨by rw [HF.out]; rfl, rfl⟩
    · have hd : l.drop k = [] := List.drop_eq_nil_of_le (by omega)
      have HF := Lib.hid (show liesL l = (nn, mm) by rw [← HR.out, hd]; rfl)
      go_wp2
      go_ret2
      exact ⟨by rw [HF.out]; rfl, rfl⟩

set_option maxHeartbeats 1000000 in
theorem all06_any (l : List Int) (mod : Int) (v : Value) (w : World) (hv : Sl rI w v l) :
    Calls Try.prog 52 #[v, .int .i64 mod] w fun e w' => e = .returned (.bool (allIn l mod)) ∧ w = w' := by
  have hl := hv.len
  obtain ⟨a, c, rfl, hc⟩ := ints_view hv
  have HC := Lib.hid hc; clear hc hv
  go_enter Try.func52, Try.ntmps52
  go_wp2
  go_loop [5] (fun i => ∃ k : Nat, i = .int .i64 k ∧ k ≤ l.length ∧ ∀ j (h : j < l.length), j < k → inB l[j] mod = true) (fun i => l.length - (intOf i).toNat)
  case atStart => exact ⟨0, rfl, by omega, fun j _ h => absurd h (by omega)⟩
  case round =>
    obtain ⟨k, rfl, hk, hall⟩ := hrel
    have Hall := Lib.hid hall; clear hall
    by_cases hlt : k < l.length
    · obtain ⟨b, o, rfl, x1, _⟩ := HC.out k hlt
      by_cases h1 : inB l[k] mod = true
      · go_wp2_with (first | (go_at_call 56; refine (in06_any _ _ _).mono ?_; rintro e w' ⟨rfl, rfl⟩))
        go_round
        case rel => exact ⟨k + 1, by go_num, by omega, fun j h2 h3 => by
          rcases Nat.lt_or_ge j k with h | h
          · exact Hall.out j h2 h
          · obtain rfl : j = k := by omega
            exact h1⟩
        case measure => simp [intOf]; omega
      · have h1' : inB l[k] mod = false := by simpa using h1
        clear h1
        go_wp2_with (first | (go_at_call 56; refine (in06_any _ _ _).mono ?_; rintro e w' ⟨rfl, rfl⟩))
        go_ret
        exact ⟨by rw [allIn_bad hlt h1']; rfl, rfl⟩
    · go_wp2
      go_ret
      exact ⟨by rw [allIn_good fun j hj => Hall.out j hj (by omega)]; rfl, rfl⟩

end Go.Proofs.Ytmaklniljnbokaa
end

section
namespace Go.Proofs.Ytmaklniljnbokaa
open Go.RowKit
set_option linter.unusedVariables false
set_option linter.unusedSimpArgs false

theorem Sl.nil {α : Type} (r : Rd α) (w : World) : Sl r w (.slice none 0 0) [] := ⟨none, 0, rfl, by simp, fun k hk => absurd hk (by simp)⟩

def RightCPost (l : List OpS) (regs : List Int) (own locs : Int) (w : World) (e : Ending) (w' : World) : Prop := e = .returned (.bool (rightC l regs own locs)) ∧ Below w.heap.size w w'

theorem rightC_no {l : List OpS} {regs : List Int} {own locs : Int} {w w' : World} {k : Nat} (hk : k < l.length) (h : opOk regs own locs l[k] = false) (hb : Below w.heap.size w w') : RightCPost l regs own locs w (.returned (.bool false)) w' := ⟨by rw [rightC_bad hk h], hb⟩

theorem in06_q (a b : Int) (w : World) (n : Nat) : Calls Try.prog 56 #[.int .i64 a, .int .i64 b] (w.drewN n) fun e w'' => e = .returned (.bool (inB a b)) ∧ ∃ m, w'' = w.drewN m :=
  (in06_any a b _).mono fun _ _ ⟨he, hw⟩ => ⟨he, n, hw.symm⟩

theorem opOk4 {regs : List Int} {own locs : Int} {x : OpS} (hop : x.op = 4) {tn : Nat} (ht : x.t = tn) (hlt : tn < regs.length) : opOk regs own locs x = inB x.n regs[tn] := by
  simp only [opOk, hop, ht]
  simp [List.getElem?_eq_getElem hlt]
theorem opOk4_no {regs : List Int} {own locs : Int} {x : OpS} (hop : x.op = 4) (h : inB x.t regs.length = false) : opOk regs own locs x = false := by
  simp only [opOk, hop]
  simp only [inB, decide_eq_false_iff_not] at h
  rcases hx : regs[x.t.toNat]? with _ | m
  · simp
  · have := (List.getElem?_eq_some_iff.1 hx).1
    have : ¬ 0 ≤ x.t := by omega
    simp [this]

set_option maxRecDepth 100000 in
set_option maxHeartbeats 8000000 in
theorem rightC06_any (l : List OpS) (regs : List Int) (own locs : Int) (v vr : Value) (w : World) (hv : Sl rOp w v l) (hr : Sl rI w vr regs) :
    Calls Try.prog 60 #[v, vr, .int .i64 own, .int .i64 locs] w (RightCPost l regs own locs w) := by
  have hl := hv.len
  have hl2 := hr.len
  have HV := Lib.hid hv
  obtain ⟨a, c, rfl, hc⟩ := ops_view hv
  obtain ⟨a2, c2, rfl, hc2⟩ := ints_view hr
  have HC := Lib.hid hc; have HC2 := Lib.hid hc2; clear hc hc2 hv hr
  go_enter Try.func60, Try.ntmps60
  go_wp2
  go_loopw [9] (fun i wr => ∃ k : Nat, i = .int .i64 k ∧ k ≤ l.length ∧ (∀ j (h : j < l.length), j < k → opOk regs own locs l[j] = true) ∧ Below w.heap.size w wr) (fun i _ => l.length - (intOf i).toNat)
  case atStart => exact ⟨0, rfl, by omega, fun j _ h => absurd h (by omega), Below.refl _ _⟩
  case round =>
    obtain ⟨k, rfl, hk, hall, hb⟩ := hrel
    have Hall := Lib.hid hall; have HB := Lib.hid hb
    have hz := hb.size
    clear hall hb
    by_cases hlt : k < l.length
    · obtain ⟨b, o, rfl, x1, x2, x3, _⟩ := HC.out k hlt
      have y1 := cell_later HB.out x1; have y2 := cell_later HB.out x2; have y3 := cell_later HB.out x3
      clear x1 x2 x3
      obtain ⟨x, hx⟩ : ∃ x, l[k] = x := ⟨_, rfl⟩
      have Hrel : Hid (opOk regs own locs x = true → ∀ j (h : j < l.length), j < k + 1 → opOk regs own locs l[j] = true) := fun hox j h2 h3 => by
        rcases Nat.lt_or_ge j k with h | h
        · exact Hall.out j h2 h
        · obtain rfl : j = k := by omega
          rw [hx]; exact hox
      have Hbad : Hid (∀ w', opOk regs own locs x = false → Below w.heap.size w w' → RightCPost l regs own locs w (.returned (.bool false)) w') := fun w' hox hbb => rightC_no hlt (by rw [hx]; exact hox) hbb
      rw [hx] at y1 y2 y3
      clear hx
      by_cases c1 : x.op = 1
      · have d1 : (x.op == 1) = true := ib_yes c1
        have HE := Lib.hid (show opOk regs own locs x = inB x.n 10000 by simp only [opOk, c1, if_true])
        cases h : inB x.n 10000
        · clear c1
          go_wp2_with (first | (go_at_call 56; refine (in06_any _ _ _).mono ?_; rintro e w' ⟨rfl, rfl⟩))
          go_ret
          exact Hbad.out _ (by rw [HE.out, h]) (HB.out.alloc hz _)
        · clear c1
          go_wp2_with (first | (go_at_call 56; refine (in06_any _ _ _).mono ?_; rintro e w' ⟨rfl, rfl⟩))
          go_roundw
          case rel => exact ⟨k + 1, by go_num, by omega, Hrel.out (by rw [HE.out, h]), HB.out.alloc hz _⟩
          case measure => simp [intOf]; omega
      · have d1 : (x.op == 1) = false := ib_no c1
        by_cases c2 : x.op = 2
        · have d2 : (x.op == 2) = true := ib_yes c2
          have HE := Lib.hid (show opOk regs own locs x = inB x.n own by simp [opOk, c2])
          cases h : inB x.n own
          · clear c1 c2
            go_wp2_with (first | (go_at_call 56; refine (in06_any _ _ _).mono ?_; rintro e w' ⟨rfl, rfl⟩))
            go_ret
            exact Hbad.out _ (by rw [HE.out, h]) (HB.out.alloc hz _)
          · clear c1 c2
            go_wp2_with (first | (go_at_call 56; refine (in06_any _ _ _).mono ?_; rintro e w' ⟨rfl, rfl⟩))
            go_roundw
            case rel => exact ⟨k + 1, by go_num, by omega, Hrel.out (by rw [HE.out, h]), HB.out.alloc hz _⟩
            case measure => simp [intOf]; omega
        · have d2 : (x.op == 2) = false := ib_no c2
          by_cases c3 : x.op = 3
          · have d3 : (x.op == 3) = true := ib_yes c3
            have HE := Lib.hid (show opOk regs own locs x = inB x.n locs by simp [opOk, c3])
            cases h : inB x.n locs
            · clear c1 c2 c3
              go_wp2_with (first | (go_at_call 56; refine (in06_any _ _ _).mono ?_; rintro e w' ⟨rfl, rfl⟩))
              go_ret
              exact Hbad.out _ (by rw [HE.out, h]) (HB.out.alloc hz _)
            · clear c1 c2 c3
              go_wp2_with (first | (go_at_call 56; refine (in06_any _ _ _).mono ?_; rintro e w' ⟨rfl, rfl⟩))
              go_roundw
              case rel => exact ⟨k + 1, by go_num, by omega, Hrel.out (by rw [HE.out, h]), HB.out.alloc hz _⟩
              case measure => simp [intOf]; omega
          · have d3 : (x.op == 3) = false := ib_no c3
            by_cases c4 : x.op = 4
            · have d4 : (x.op == 4) = true := ib_yes c4
              cases ht : inB x.t regs.length
              · have HE := Lib.hid (opOk4_no (own := own) (locs := locs) c4 ht)
                clear c1 c2 c3 c4
                go_wp2
                go_quiet ((go_at_call 56; exact in06_q _ _ _ _))
                go_wp2
                go_ret
                exact Hbad.out _ HE.out (below_drewN (HB.out.alloc hz _) _)
              · have ht2 := ht
                simp only [inB, decide_eq_true_eq] at ht2
                obtain ⟨t1, t2⟩ := ht2
                obtain ⟨tn, htn⟩ := Int.eq_ofNat_of_zero_le t1
                rw [htn] at t2 y3 ht
                have t3 : tn < regs.length := by omega
                obtain ⟨b2, o2, rfl, z1, _⟩ := HC2.out tn t3
                have z2 := cell_later HB.out z1
                have HE := Lib.hid (opOk4 (own := own) (locs := locs) c4 htn t3)
                clear z1 t1 htn
                obtain ⟨m, hm⟩ : ∃ m, regs[tn] = m := ⟨_, rfl⟩
                rw [hm] at z2 HE
                clear hm
                have hb2 : b2 < wr.heap.size := World.block_lt_of_cell? _ _ z2
                have hb3 : b2 ≠ wr.heap.size := by omega
                cases h : inB x.n m
                · clear c1 c2 c3 c4
                  go_wp2
                  go_quiet ((go_at_call 56; exact in06_q _ _ _ _))
                  go_wp2
                  go_ret
                  exact Hbad.out _ (by rw [HE.out, h]) (below_drewN (HB.out.alloc hz _) _)
                · clear c1 c2 c3 c4
                  go_wp2
                  go_quiet ((go_at_call 56; exact in06_q _ _ _ _))
                  go_wp2
                  go_roundw
                  case rel => exact ⟨k + 1, by go_num, by omega, Hrel.out (by rw [HE.out, h]), below_drewN (HB.out.alloc hz _) _⟩
                  case measure => simp [intOf]; omega
            · have d4 : (x.op == 4) = false := ib_no c4
              have HE := Lib.hid (show opOk regs own locs x = true by simp [opOk, c1, c2, c3, c4])
              clear c1 c2 c3 c4
              go_wp2
              go_roundw
              case rel => exact ⟨k + 1, by go_num, by omega, Hrel.out HE.out, HB.out.alloc hz _⟩
              case measure => simp [intOf]; omega
    · have HG := Lib.hid (rightC_good (regs := regs) (own := own) (locs := locs) (l := l) (fun j hj => Hall.out j hj (by omega)))
      go_wp2_with fail
      refine (lies06_any l _ _ (HV.out.mono mono_op HB.out)).mono ?_
      rintro e w' ⟨rfl, rfl⟩
      go_wp2
      go_ret
      exact ⟨by rw [HG.out]; rfl, HB.out⟩

end Go.Proofs.Ytmaklniljnbokaa
end

