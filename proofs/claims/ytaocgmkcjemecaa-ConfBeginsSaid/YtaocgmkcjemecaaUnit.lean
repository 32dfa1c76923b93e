/- Units and configurations, as they lie in memory. Parts of the proofs of the laws of layers 6 to 22. Conditions: none. -/
import Derived.Test.YtaocgmkcjemecaaRd
import Derived.OpenShut
namespace Go.Proofs.Ytaocgmkcjemecaa
open Go.RowKit
set_option linter.unusedVariables false
set_option linter.unusedSimpArgs false

structure OpS where
  op : Int
  n : Int
  t : Int
  deriving DecidableEq

structure InstrS where
  op : Int
  reg : Int
  loc : Int
  e : List OpS
  f : List OpS
  ne : Bool
  goal : Int
  deriving DecidableEq

structure UnitS where
  mod : Int
  init : List Int
  regs : List Int
  code : List (List InstrS)
  deriving DecidableEq

structure EntryS where
  loc : Int
  n : Int
  deriving DecidableEq

structure ConfS where
  pc : List Int
  regs : List (List Int)
  mem : List Int
  buf : List (List EntryS)
  deriving DecidableEq

abbrev rI : Rd Int := rInt .i64
def rInts : Rd (List Int) := rSlice rI
def rOp : Rd OpS := rMap (fun x => ⟨x.1, x.2.1, x.2.2⟩) (rPair rI (rPair rI rI))
def rOps : Rd (List OpS) := rSlice rOp
def rInstr : Rd InstrS := rMap (fun x => ⟨x.1, x.2.1, x.2.2.1, x.2.2.2.1, x.2.2.2.2.1, x.2.2.2.2.2.1, x.2.2.2.2.2.2⟩) (rPair rI (rPair rI (rPair rI (rPair rOps (rPair rOps (rPair rBool rI))))))
def rInstrs : Rd (List InstrS) := rSlice rInstr
def rCode : Rd (List (List InstrS)) := rSlice rInstrs
def rUnit : Rd UnitS := rMap (fun x => ⟨x.1, x.2.1, x.2.2.1, x.2.2.2⟩) (rPair rI (rPair rInts (rPair rInts rCode)))
def rEntry : Rd EntryS := rMap (fun x => ⟨x.1, x.2⟩) (rPair rI rI)
def rEntries : Rd (List EntryS) := rSlice rEntry
def rRows : Rd (List (List Int)) := rSlice rInts
def rBufs : Rd (List (List EntryS)) := rSlice rEntries
def rConf : Rd ConfS := rMap (fun x => ⟨x.1, x.2.1, x.2.2.1, x.2.2.2⟩) (rPair rInts (rPair rRows (rPair rInts rBufs)))

theorem mono_ints : Mono rInts := mono_slice (mono_int _)
theorem mono_op : Mono rOp := mono_map _ (mono_pair (mono_int _) (mono_pair (mono_int _) (mono_int _)))
theorem mono_ops : Mono rOps := mono_slice mono_op
theorem mono_instr : Mono rInstr := mono_map _ (mono_pair (mono_int _) (mono_pair (mono_int _) (mono_pair (mono_int _) (mono_pair mono_ops (mono_pair mono_ops (mono_pair mono_bool (mono_int _)))))))
theorem mono_instrs : Mono rInstrs := mono_slice mono_instr
theorem mono_code : Mono rCode := mono_slice mono_instrs
theorem mono_unit : Mono rUnit := mono_map _ (mono_pair (mono_int _) (mono_pair mono_ints (mono_pair mono_ints mono_code)))
theorem mono_entry : Mono rEntry := mono_map _ (mono_pair (mono_int _) (mono_int _))
theorem mono_entries : Mono rEntries := mono_slice mono_entry
theorem mono_rows : Mono rRows := mono_slice mono_ints
theorem mono_bufs : Mono rBufs := mono_slice mono_entries
theorem mono_conf : Mono rConf := mono_map _ (mono_pair mono_ints (mono_pair mono_rows (mono_pair mono_ints mono_bufs)))

/-- A slice value reads as a list. -/
abbrev Sl {α : Type} (r : Rd α) (w : World) (v : Value) (l : List α) : Prop := (rSlice r).rel w [v] l

theorem Sl.mono {α : Type} {r : Rd α} (hm : Mono r) {w w' : World} {v : Value} {l : List α} (h : Sl r w v l) (hb : Below w.heap.size w w') : Sl r w' v l := mono_slice hm _ _ _ _ h hb

theorem Sl.len {α : Type} {r : Rd α} {w : World} {v : Value} {l : List α} (h : Sl r w v l) : l.length ≤ 9223372036854775807 := by
  obtain ⟨a, cap, _, ⟨h1, h2, _⟩, _⟩ := h
  unfold maxLen at h2; omega

theorem wf_i64 {n : Int} (h : (Lit.int .i64 n).wf = true) : -9223372036854775808 ≤ n ∧ n ≤ 9223372036854775807 := _root_.Go.bounds_i64 h

theorem ints_view {w : World} {v : Value} {l : List Int} (h : Sl rI w v l) :
    ∃ a cap, v = .slice a l.length cap ∧ ∀ k (hk : k < l.length), ∃ b off, a = some ⟨b, off, none⟩ ∧ w.cell? ⟨b, off + k, none⟩ = some (.int .i64 l[k]) ∧ -9223372036854775808 ≤ l[k] ∧ l[k] ≤ 9223372036854775807 := by
  obtain ⟨a, cap, h1, _, h3⟩ := h
  simp only [List.cons.injEq, and_true] at h1
  subst h1
  refine ⟨a, cap, rfl, fun k hk => ?_⟩
  obtain ⟨b, off, cs', e1, _, e3, e4, e5⟩ := h3 k hk
  subst e4
  have h0 := e3 0 _ rfl
  exact ⟨b, off, e1, by simpa [rInt] using h0, wf_i64 e5⟩

theorem rOp_rel {w : World} {cs : List Value} {x : OpS} (h : rOp.rel w cs x) : cs = [.int .i64 x.op, .int .i64 x.n, .int .i64 x.t] ∧ ((-9223372036854775808 ≤ x.op ∧ x.op ≤ 9223372036854775807) ∧ (-9223372036854775808 ≤ x.n ∧ x.n ≤ 9223372036854775807) ∧ (-9223372036854775808 ≤ x.t ∧ x.t ≤ 9223372036854775807)) := by
  obtain ⟨y, ⟨⟨h1, b1⟩, ⟨h2, b2⟩, h3, b3⟩, rfl⟩ := h
  simp only [rInt] at h1 h2 h3
  refine ⟨?_, wf_i64 b1, wf_i64 b2, wf_i64 b3⟩
  have e : cs = cs.take 1 ++ ((cs.drop 1).take 1 ++ (cs.drop 1).drop 1) := by simp only [List.take_append_drop]
  rw [e, h1, h2, h3]
  rfl

theorem ops_view {w : World} {v : Value} {l : List OpS} (h : Sl rOp w v l) :
    ∃ a cap, v = .slice a l.length cap ∧ ∀ k (hk : k < l.length), ∃ b off, a = some ⟨b, off, none⟩ ∧ w.cell? ⟨b, off + k * 3, none⟩ = some (.int .i64 l[k].op) ∧ w.cell? ⟨b, off + k * 3 + 1, none⟩ = some (.int .i64 l[k].n) ∧ w.cell? ⟨b, off + k * 3 + 2, none⟩ = some (.int .i64 l[k].t) ∧
      (-9223372036854775808 ≤ l[k].op ∧ l[k].op ≤ 9223372036854775807) ∧ (-9223372036854775808 ≤ l[k].n ∧ l[k].n ≤ 9223372036854775807) ∧ (-9223372036854775808 ≤ l[k].t ∧ l[k].t ≤ 9223372036854775807) := by
  obtain ⟨a, cap, h1, _, h3⟩ := h
  simp only [List.cons.injEq, and_true] at h1
  subst h1
  refine ⟨a, cap, rfl, fun k hk => ?_⟩
  obtain ⟨b, off, cs', e1, _, e3, e4⟩ := h3 k hk
  obtain ⟨rfl, b1, b2, b3⟩ := rOp_rel e4
  exact ⟨b, off, e1, e3 0 _ rfl, e3 1 _ rfl, e3 2 _ rfl, b1, b2, b3⟩

theorem rInstr_rel {w : World} {cs : List Value} {x : InstrS} (h : rInstr.rel w cs x) : ∃ ve vf, cs = [.int .i64 x.op, .int .i64 x.reg, .int .i64 x.loc, ve, vf, .bool x.ne, .int .i64 x.goal] ∧ Sl rOp w ve x.e ∧ Sl rOp w vf x.f ∧
    ((-9223372036854775808 ≤ x.op ∧ x.op ≤ 9223372036854775807) ∧ (-9223372036854775808 ≤ x.reg ∧ x.reg ≤ 9223372036854775807) ∧ (-9223372036854775808 ≤ x.loc ∧ x.loc ≤ 9223372036854775807) ∧ (-9223372036854775808 ≤ x.goal ∧ x.goal ≤ 9223372036854775807)) := by
  obtain ⟨y, ⟨⟨h1, b1⟩, ⟨h2, b2⟩, ⟨h3, b3⟩, h4, h5, h6, h7, b7⟩, rfl⟩ := h
  obtain ⟨a4, c4, e4, r4⟩ := h4
  obtain ⟨a5, c5, e5, r5⟩ := h5
  simp only [rInt, rBool, rOps, rSlice] at h1 h2 h3 e4 e5 h6 h7
  refine ⟨_, _, ?_, ⟨a4, c4, rfl, r4⟩, ⟨a5, c5, rfl, r5⟩, wf_i64 b1, wf_i64 b2, wf_i64 b3, wf_i64 b7⟩
  have e : cs = cs.take 1 ++ ((cs.drop 1).take 1 ++ (((cs.drop 1).drop 1).take 1 ++ ((((cs.drop 1).drop 1).drop 1).take 1 ++ (((((cs.drop 1).drop 1).drop 1).drop 1).take 1 ++ ((((((cs.drop 1).drop 1).drop 1).drop 1).drop 1).take 1 ++ (((((cs.drop 1).drop 1).drop 1).drop 1).drop 1).drop 1))))) := by
    simp only [List.take_append_drop]
  rw [e, h1, h2, h3, e4, e5, h6, h7]
  rfl

theorem instrs_view {w : World} {v : Value} {l : List InstrS} (h : Sl rInstr w v l) :
    ∃ a cap, v = .slice a l.length cap ∧ ∀ k (hk : k < l.length), ∃ b off ve vf, a = some ⟨b, off, none⟩ ∧ w.cell? ⟨b, off + k * 7, none⟩ = some (.int .i64 l[k].op) ∧ w.cell? ⟨b, off + k * 7 + 1, none⟩ = some (.int .i64 l[k].reg) ∧ w.cell? ⟨b, off + k * 7 + 2, none⟩ = some (.int .i64 l[k].loc) ∧
      w.cell? ⟨b, off + k * 7 + 3, none⟩ = some ve ∧ w.cell? ⟨b, off + k * 7 + 4, none⟩ = some vf ∧ w.cell? ⟨b, off + k * 7 + 5, none⟩ = some (.bool l[k].ne) ∧ w.cell? ⟨b, off + k * 7 + 6, none⟩ = some (.int .i64 l[k].goal) ∧ Sl rOp w ve l[k].e ∧ Sl rOp w vf l[k].f ∧
      (-9223372036854775808 ≤ l[k].op ∧ l[k].op ≤ 9223372036854775807) ∧ (-9223372036854775808 ≤ l[k].reg ∧ l[k].reg ≤ 9223372036854775807) ∧ (-9223372036854775808 ≤ l[k].loc ∧ l[k].loc ≤ 9223372036854775807) ∧ (-9223372036854775808 ≤ l[k].goal ∧ l[k].goal ≤ 9223372036854775807) := by
  obtain ⟨a, cap, h1, _, h3⟩ := h
  simp only [List.cons.injEq, and_true] at h1
  subst h1
  refine ⟨a, cap, rfl, fun k hk => ?_⟩
  obtain ⟨b, off, cs', e1, _, e3, e4⟩ := h3 k hk
  obtain ⟨ve, vf, rfl, s1, s2, b1, b2, b3, b4⟩ := rInstr_rel e4
  exact ⟨b, off, ve, vf, e1, e3 0 _ rfl, e3 1 _ rfl, e3 2 _ rfl, e3 3 _ rfl, e3 4 _ rfl, e3 5 _ rfl, e3 6 _ rfl, s1, s2, b1, b2, b3, b4⟩

/-- A slice of slices. -/
theorem slices_view {α : Type} {r : Rd α} {w : World} {v : Value} {l : List (List α)} (h : Sl (rSlice r) w v l) :
    ∃ a cap, v = .slice a l.length cap ∧ ∀ k (hk : k < l.length), ∃ b off u, a = some ⟨b, off, none⟩ ∧ w.cell? ⟨b, off + k, none⟩ = some u ∧ Sl r w u l[k] := by
  obtain ⟨a, cap, h1, _, h3⟩ := h
  simp only [List.cons.injEq, and_true] at h1
  subst h1
  refine ⟨a, cap, rfl, fun k hk => ?_⟩
  obtain ⟨b, off, cs', e1, _, e3, e4⟩ := h3 k hk
  obtain ⟨a2, c2, e5, r5⟩ := e4
  subst e5
  have h0 := e3 0 _ rfl
  exact ⟨b, off, _, e1, by simpa [rSlice] using h0, a2, c2, rfl, r5⟩

theorem rEntry_rel {w : World} {cs : List Value} {x : EntryS} (h : rEntry.rel w cs x) : cs = [.int .i64 x.loc, .int .i64 x.n] ∧ (-9223372036854775808 ≤ x.loc ∧ x.loc ≤ 9223372036854775807) ∧ (-9223372036854775808 ≤ x.n ∧ x.n ≤ 9223372036854775807) := by
  obtain ⟨y, ⟨⟨h1, b1⟩, h2, b2⟩, rfl⟩ := h
  simp only [rInt] at h1 h2
  refine ⟨?_, wf_i64 b1, wf_i64 b2⟩
  have e : cs = cs.take 1 ++ cs.drop 1 := by simp only [List.take_append_drop]
  rw [e, h1, h2]
  rfl

theorem entries_view {w : World} {v : Value} {l : List EntryS} (h : Sl rEntry w v l) :
    ∃ a cap, v = .slice a l.length cap ∧ ∀ k (hk : k < l.length), ∃ b off, a = some ⟨b, off, none⟩ ∧ w.cell? ⟨b, off + k * 2, none⟩ = some (.int .i64 l[k].loc) ∧ w.cell? ⟨b, off + k * 2 + 1, none⟩ = some (.int .i64 l[k].n) ∧
      (-9223372036854775808 ≤ l[k].loc ∧ l[k].loc ≤ 9223372036854775807) ∧ (-9223372036854775808 ≤ l[k].n ∧ l[k].n ≤ 9223372036854775807) := by
  obtain ⟨a, cap, h1, _, h3⟩ := h
  simp only [List.cons.injEq, and_true] at h1
  subst h1
  refine ⟨a, cap, rfl, fun k hk => ?_⟩
  obtain ⟨b, off, cs', e1, _, e3, e4⟩ := h3 k hk
  obtain ⟨rfl, b1, b2⟩ := rEntry_rel e4
  exact ⟨b, off, e1, e3 0 _ rfl, e3 1 _ rfl, b1, b2⟩

/-- A unit's value. -/
def UnitV (w : World) (v : Value) (u : UnitS) : Prop := ∃ vi vr vc, v = .agg #[.int .i64 u.mod, vi, vr, vc] ∧ Sl rI w vi u.init ∧ Sl rI w vr u.regs ∧ Sl rInstrs w vc u.code ∧ -9223372036854775808 ≤ u.mod ∧ u.mod ≤ 9223372036854775807

theorem UnitV.mono {w w' : World} {v : Value} {u : UnitS} (h : UnitV w v u) (hb : Below w.heap.size w w') : UnitV w' v u := by
  obtain ⟨vi, vr, vc, h0, h1, h2, h3, h4⟩ := h
  exact ⟨vi, vr, vc, h0, h1.mono (mono_int _) hb, h2.mono (mono_int _) hb, h3.mono mono_instrs hb, h4⟩

theorem four {cs : List Value} {a b c d : List Value} (h1 : cs.take 1 = a) (h2 : (cs.drop 1).take 1 = b) (h3 : ((cs.drop 1).drop 1).take 1 = c) (h4 : ((cs.drop 1).drop 1).drop 1 = d) : cs = a ++ (b ++ (c ++ d)) := by
  rw [← h1, ← h2, ← h3, ← h4]
  simp only [List.take_append_drop]

theorem unit_of {w : World} {cs : Array Value} {u : UnitS} (h : rUnit.rel w cs.toList u) : UnitV w (.agg cs) u := by
  obtain ⟨cs⟩ := cs
  obtain ⟨y, ⟨⟨h1, b1⟩, h2, h3, h4⟩, rfl⟩ := h
  obtain ⟨a2, c2, e2, r2⟩ := h2
  obtain ⟨a3, c3, e3, r3⟩ := h3
  obtain ⟨a4, c4, e4, r4⟩ := h4
  simp only [rInt, rInts, rSlice] at h1 e2 e3 e4
  have e := four h1 e2 e3 e4
  subst e
  exact ⟨_, _, _, rfl, ⟨a2, c2, rfl, r2⟩, ⟨a3, c3, rfl, r3⟩, ⟨a4, c4, rfl, r4⟩, wf_i64 b1⟩

/-- A configuration's value. -/
def ConfV (w : World) (v : Value) (c : ConfS) : Prop := ∃ vp vr vm vb, v = .agg #[vp, vr, vm, vb] ∧ Sl rI w vp c.pc ∧ Sl rInts w vr c.regs ∧ Sl rI w vm c.mem ∧ Sl rEntries w vb c.buf

theorem ConfV.mono {w w' : World} {v : Value} {c : ConfS} (h : ConfV w v c) (hb : Below w.heap.size w w') : ConfV w' v c := by
  obtain ⟨vp, vr, vm, vb, h0, h1, h2, h3, h4⟩ := h
  exact ⟨vp, vr, vm, vb, h0, h1.mono (mono_int _) hb, h2.mono mono_ints hb, h3.mono (mono_int _) hb, h4.mono mono_entries hb⟩

theorem conf_of {w : World} {cs : Array Value} {c : ConfS} (h : rConf.rel w cs.toList c) : ConfV w (.agg cs) c := by
  obtain ⟨cs⟩ := cs
  obtain ⟨y, ⟨h1, h2, h3, h4⟩, rfl⟩ := h
  obtain ⟨a1, c1, e1, r1⟩ := h1
  obtain ⟨a2, c2, e2, r2⟩ := h2
  obtain ⟨a3, c3, e3, r3⟩ := h3
  obtain ⟨a4, c4, e4, r4⟩ := h4
  simp only [rInts, rRows, rBufs, rSlice] at e1 e2 e3 e4
  have e := four e1 e2 e3 e4
  subst e
  exact ⟨_, _, _, _, rfl, ⟨a1, c1, rfl, r1⟩, ⟨a2, c2, rfl, r2⟩, ⟨a3, c3, rfl, r3⟩, ⟨a4, c4, rfl, r4⟩⟩

end Go.Proofs.Ytaocgmkcjemecaa
