/- Units, entries, configurations as the interpreter's values. Parts of the proofs of the laws. Conditions: none. -/
import Derived.Test.YtaocgmkcjemecaaDec
import Derived.Test.YtaocgmkcjemecaaAbsS
namespace Go.Proofs.Ytaocgmkcjemecaa
open Go.RowKit
set_option linter.unusedVariables false
set_option linter.unusedSimpArgs false

def encI (n : Int) : List AV := [.int .i64 n]
abbrev aIs (l : List Int) : AV := .sl 1 (l.map encI)
def encRow (l : List Int) : List AV := [aIs l]
abbrev aRows (l : List (List Int)) : AV := .sl 1 (l.map encRow)
def encE (x : EntryS) : List AV := [.int .i64 x.loc, .int .i64 x.n]
abbrev aEs (b : List EntryS) : AV := .sl 2 (b.map encE)
def encBuf (b : List EntryS) : List AV := [aEs b]
abbrev aBufs (l : List (List EntryS)) : AV := .sl 1 (l.map encBuf)
def encOp (x : OpS) : List AV := [.int .i64 x.op, .int .i64 x.n, .int .i64 x.t]
abbrev aOps (l : List OpS) : AV := .sl 3 (l.map encOp)
def encIn (x : InstrS) : List AV := [.int .i64 x.op, .int .i64 x.reg, .int .i64 x.loc, aOps x.e, aOps x.f, .bool x.ne, .int .i64 x.goal]
abbrev aIns (l : List InstrS) : AV := .sl 7 (l.map encIn)
def encThr (l : List InstrS) : List AV := [aIns l]
abbrev aCode (l : List (List InstrS)) : AV := .sl 1 (l.map encThr)
def cellsU (u : UnitS) : List AV := [.int .i64 u.mod, aIs u.init, aIs u.regs, aCode u.code]
abbrev aU (u : UnitS) : AV := .agg (cellsU u)
def cellsC (c : ConfS) : List AV := [aIs c.pc, aRows c.regs, aIs c.mem, aBufs c.buf]
abbrev aC (c : ConfS) : AV := .agg (cellsC c)

theorem e_int : Enc rI encI := enc_int _
theorem e_ints : Enc rInts (fun l => [aIs l]) := enc_slice e_int
theorem e_rows : Enc rRows (fun l => [aRows l]) := enc_slice e_ints
theorem e_entry : Enc rEntry encE := enc_map (fun _ => rfl) (enc_pair e_int e_int)
theorem e_entries : Enc rEntries (fun l => [aEs l]) := enc_slice e_entry
theorem e_bufs : Enc rBufs (fun l => [aBufs l]) := enc_slice e_entries
theorem e_op : Enc rOp encOp := enc_map (fun _ => rfl) (enc_pair e_int (enc_pair e_int e_int))
theorem e_ops : Enc rOps (fun l => [aOps l]) := enc_slice e_op
theorem e_instr : Enc rInstr encIn := enc_map (fun _ => rfl) (enc_pair e_int (enc_pair e_int (enc_pair e_int (enc_pair e_ops (enc_pair e_ops (enc_pair enc_bool e_int))))))
theorem e_instrs : Enc rInstrs (fun l => [aIns l]) := enc_slice e_instr
theorem e_code : Enc rCode (fun l => [aCode l]) := enc_slice e_instrs
theorem e_unit : Enc rUnit cellsU := enc_map (fun _ => rfl) (enc_pair e_int (enc_pair e_ints (enc_pair e_ints e_code)))
theorem e_conf : Enc rConf cellsC := enc_map (fun _ => rfl) (enc_pair e_ints (enc_pair e_rows (enc_pair e_ints e_bufs)))
theorem d_int : Dec rI encI := dec_int _
theorem d_ints : Dec rInts (fun l => [aIs l]) := dec_slice d_int (by decide)
theorem d_rows : Dec rRows (fun l => [aRows l]) := dec_slice d_ints (by decide)
theorem d_entry : Dec rEntry encE := dec_map (fun y => ⟨(y.loc, y.n), rfl, rfl⟩) (dec_pair d_int d_int)
theorem d_entries : Dec rEntries (fun l => [aEs l]) := dec_slice d_entry (by decide)
theorem d_bufs : Dec rBufs (fun l => [aBufs l]) := dec_slice d_entries (by decide)
theorem d_op : Dec rOp encOp := dec_map (fun y => ⟨(y.op, y.n, y.t), rfl, rfl⟩) (dec_pair d_int (dec_pair d_int d_int))
theorem d_ops : Dec rOps (fun l => [aOps l]) := dec_slice d_op (by decide)
theorem d_instr : Dec rInstr encIn := dec_map (fun y => ⟨(y.op, y.reg, y.loc, y.e, y.f, y.ne, y.goal), rfl, rfl⟩) (dec_pair d_int (dec_pair d_int (dec_pair d_int (dec_pair d_ops (dec_pair d_ops (dec_pair dec_bool d_int))))))
theorem d_instrs : Dec rInstrs (fun l => [aIns l]) := dec_slice d_instr (by decide)
theorem d_code : Dec rCode (fun l => [aCode l]) := dec_slice d_instrs (by decide)
theorem d_unit : Dec rUnit cellsU := dec_map (fun y => ⟨(y.mod, y.init, y.regs, y.code), rfl, rfl⟩) (dec_pair d_int (dec_pair d_ints (dec_pair d_ints d_code)))
theorem d_conf : Dec rConf cellsC := dec_map (fun y => ⟨(y.pc, y.regs, y.mem, y.buf), rfl, rfl⟩) (dec_pair d_ints (dec_pair d_rows (dec_pair d_ints d_bufs)))

theorem map_inj {α β : Type} {f : α → β} (hf : ∀ x y, f x = f y → x = y) : ∀ {l l' : List α}, l.map f = l'.map f → l = l'
  | [], [], _ => rfl
  | [], _ :: _, h => by simp at h
  | _ :: _, [], h => by simp at h
  | a :: l, b :: l', h => by
    simp only [List.map_cons, List.cons.injEq] at h
    rw [hf _ _ h.1, map_inj hf h.2]
theorem encI_inj {x y : Int} (h : encI x = encI y) : x = y := by simpa [encI] using h
theorem aIs_inj {l l' : List Int} (h : aIs l = aIs l') : l = l' := map_inj (fun _ _ => encI_inj) (AV.sl.inj h).2
theorem encOp_inj {x y : OpS} (h : encOp x = encOp y) : x = y := by
  cases x; cases y; simp [encOp] at h; simp [h]
theorem aOps_inj {l l' : List OpS} (h : aOps l = aOps l') : l = l' := map_inj (fun _ _ => encOp_inj) (AV.sl.inj h).2
theorem encIn_inj {x y : InstrS} (h : encIn x = encIn y) : x = y := by
  cases x; cases y
  simp only [encIn, List.cons.injEq, AV.int.injEq, AV.bool.injEq, true_and, and_true] at h
  obtain ⟨h1, h2, h3, h4, h5, h6, h7⟩ := h
  simp [h1, h2, h3, h6, h7, aOps_inj h4, aOps_inj h5]
theorem aIns_inj {l l' : List InstrS} (h : aIns l = aIns l') : l = l' := map_inj (fun _ _ => encIn_inj) (AV.sl.inj h).2
theorem encThr_inj {l l' : List InstrS} (h : encThr l = encThr l') : l = l' := aIns_inj (by simpa only [encThr, List.cons.injEq, and_true] using h)
theorem aU_inj (x y : UnitS) (h : aU x = aU y) : x = y := by
  cases x; cases y
  simp only [aU, cellsU, AV.agg.injEq, List.cons.injEq, AV.int.injEq, true_and, and_true] at h
  obtain ⟨h1, h2, h3, h4⟩ := h
  simp [h1, aIs_inj h2, aIs_inj h3, map_inj (fun _ _ => encThr_inj) (AV.sl.inj h4).2]
theorem dec_unitV (S : Nat → Nat → Prop) (w : World) (v : Value) (u : UnitS) (h : Rep S w [] [] (aU u) v) : UnitV w v u := by
  obtain ⟨vs, hr, _, rfl⟩ := h.agg_inv
  exact unit_of (cs := vs.toArray) (d_unit.2 _ _ _ _ hr)
end Go.Proofs.Ytaocgmkcjemecaa
