/- Data that came in as the interpreter's values; a call of the interpreter as the program's call. Parts of the proofs of the laws. Conditions: none. -/
import Derived.Test.YtaocgmkcjemecaaAbsR
import Derived.Test.YtaocgmkcjemecaaUnit

section
namespace Go.Proofs.Ytaocgmkcjemecaa
open Go.RowKit
set_option linter.unusedVariables false
set_option linter.unusedSimpArgs false

/-- The cells that there are. -/
def SAll (w : World) (b o : Nat) : Prop := ∃ u, w.cell? ⟨b, o, none⟩ = some u

/-- Cells that read as a thing stand for its interpreter's cells. -/
def Enc {α : Type} (r : Rd α) (enc : α → List AV) : Prop := ∀ (w : World) (cs : List Value) (x : α), r.rel w cs x → Reps (SAll w) w [] [] (enc x) cs ∧ Ones cs

theorem enc_int (k : IntKind) : Enc (rInt k) (fun n => [.int k n]) := by
  rintro w cs x ⟨rfl, h⟩
  exact ⟨.cons _ _ _ _ _ _ (.int _ _ _ _ h) (.nil _ _), by intro v hv; simp at hv; subst hv; rfl⟩
theorem enc_bool : Enc rBool (fun b => [.bool b]) := by
  rintro w cs x rfl
  exact ⟨.cons _ _ _ _ _ _ (.bool _ _ _) (.nil _ _), by intro v hv; simp at hv; subst hv; rfl⟩
theorem enc_str : Enc rStr (fun s => [.str s]) := by
  rintro w cs x ⟨rfl, h⟩
  exact ⟨.cons _ _ _ _ _ _ (.str _ _ _ h) (.nil _ _), by intro v hv; simp at hv; subst hv; rfl⟩
theorem enc_pair {α β : Type} {r : Rd α} {s : Rd β} {f : α → List AV} {g : β → List AV} (hf : Enc r f) (hg : Enc s g) : Enc (rPair r s) (fun x => f x.1 ++ g x.2) := by
  rintro w cs x ⟨h1, h2⟩
  obtain ⟨a1, a2⟩ := hf _ _ _ h1
  obtain ⟨b1, b2⟩ := hg _ _ _ h2
  have := a1.append b1
  rw [List.take_append_drop] at this
  refine ⟨this, fun v hv => ?_⟩
  rw [← List.take_append_drop r.size cs, List.mem_append] at hv
  exact hv.elim (a2 v) (b2 v)
theorem enc_map {α β : Type} {r : Rd α} {f : α → β} {g : α → List AV} {g' : β → List AV} (he : ∀ x, g' (f x) = g x) (h : Enc r g) : Enc (rMap f r) g' := by
  rintro w cs x ⟨y, h1, rfl⟩
  rw [he]; exact h _ _ _ h1
theorem repss_of {S : Nat → Nat → Prop} {w : World} : ∀ {els : List (List AV)} {vss : List (List Value)}, els.length = vss.length → (∀ (k : Nat) (el : List AV) (vs : List Value), els[k]? = some el → vss[k]? = some vs → Reps S w [] [] el vs ∧ Ones vs) → Repss S w els vss
  | [], [], _, _ => .nil
  | el :: els, vs :: vss, hl, h => .cons _ _ _ _ (h 0 el vs rfl rfl).1 (h 0 el vs rfl rfl).2 (repss_of (by simpa using hl) fun k a b h1 h2 => h (k + 1) a b (by simpa using h1) (by simpa using h2))
theorem enc_slice {α : Type} {r : Rd α} {f : α → List AV} (hf : Enc r f) : Enc (rSlice r) (fun l => [.sl r.size (l.map f)]) := by
  rintro w cs l ⟨a, cap, rfl, hc, hi⟩
  obtain ⟨vss, hlen, hv⟩ := list_of (n := l.length) (p := fun k cs' => ∃ hk : k < l.length, ∃ b off, a = some ⟨b, off, none⟩ ∧ cs'.length = r.size ∧ (∀ j u, cs'[j]? = some u → w.cell? ⟨b, off + k * r.size + j, none⟩ = some u) ∧ r.rel w cs' l[k]) (fun k hk => by
    obtain ⟨b, off, cs', h⟩ := hi k hk
    exact ⟨cs', hk, b, off, h⟩)
  have hrep : Repss (SAll w) w (l.map f) vss := by
    refine repss_of (by rw [List.length_map, hlen]) fun k el vs h1 h2 => ?_
    obtain ⟨hk2, rfl⟩ := List.getElem?_eq_some_iff.1 h2
    obtain ⟨hk, b, off, _, _, _, h6⟩ := hv k hk2
    rw [List.getElem?_map, List.getElem?_eq_getElem hk] at h1
    simp at h1; subst h1
    exact hf _ _ _ h6
  refine ⟨.cons _ _ _ _ _ _ ?_ (.nil _ _), by intro v hv; simp at hv; subst hv; rfl⟩
  have := Rep.sl (S := SAll w) (w := w) [] [] r.size (l.map f) vss a cap hrep ⟨fun vs hm => ?_, fun j vs t u h1 h2 => ?_⟩ (by rw [List.length_map]; exact hc)
  · rw [List.length_map] at this; exact this
  · obtain ⟨k, hk, rfl⟩ := List.getElem_of_mem hm
    obtain ⟨_, _, _, _, h, _⟩ := hv k hk
    exact h
  · obtain ⟨hk2, rfl⟩ := List.getElem?_eq_some_iff.1 h1
    obtain ⟨hk, b, off, h4, h5, h6, _⟩ := hv j hk2
    exact ⟨b, off, h4, ⟨u, h6 t u h2⟩, h6 t u h2⟩

/-- What is asked of a law's call. -/
def LawOk (W : World) (e : Ending) (w' : World) : Prop := e = .returned (.bool true) ∧ Below W.heap.size W w'
/-- A law's call, by the interpreter. -/
theorem law_calls {X : Ext} (hX : SoundExt Try.prog X) {n : Nat} {g : FuncId} {args : List AV} {W : World} {vs : List Value} (h : callN Try.prog HH X n g args [] = some (.bool true, [])) (hr : Reps (SAll W) W [] [] args vs) : Calls Try.prog g vs.toArray W fun e w' => e = .returned (.bool true) ∧ Below W.heap.size W w' := by
  refine (cN_sound hX n false g args [] _ _ h W.heap.size (SAll W) W [] vs ⟨rfl, Nat.le_refl _, fun _ _ h => h, fun id o ho => by simp at ho, fun i j b hi => by simp [blockAt] at hi⟩ hr).mono ?_
  rintro e w' ⟨u, S', φ', rfl, hu, _, ht⟩
  exact ⟨by rw [hu.bool_inv], ht.below⟩
/-- A known contract that yields a fixed value of one cell. -/
theorem SAll.ext {w w' : World} (hb : Below w.heap.size w w') : SExt (SAll w) w (SAll w') w' := by
  rintro b o ⟨u, hu⟩
  have h1 := cell_lt hu
  have := hb.cell (p := ⟨b, o, none⟩) h1
  exact ⟨⟨u, by rw [this]; exact hu⟩, this⟩
theorem sext_below {S : Nat → Nat → Prop} {w w' : World} (hc : ∀ b o, S b o → ∃ u, w.cell? ⟨b, o, none⟩ = some u) (hb : Below w.heap.size w w') : SExt S w S w' ∧ ∀ b o, S b o → ∃ u, w'.cell? ⟨b, o, none⟩ = some u := by
  have key : ∀ b o, S b o → w'.cell? ⟨b, o, none⟩ = w.cell? ⟨b, o, none⟩ := fun b o h => by
    obtain ⟨u, hu⟩ := hc b o h
    exact hb.cell (p := ⟨b, o, none⟩) (cell_lt hu)
  exact ⟨fun b o h => ⟨h, key b o h⟩, fun b o h => by rw [key b o h]; exact hc b o h⟩
end Go.Proofs.Ytaocgmkcjemecaa
end

/- The interpreter's closed values as data in memory; contracts that are known beside the interpreter. Parts of the proofs of the laws. Conditions: none. -/
section
namespace Go.Proofs.Ytaocgmkcjemecaa
open Go.RowKit
set_option linter.unusedVariables false
set_option linter.unusedSimpArgs false

/-- What stands for a thing's interpreter's cells reads as that thing. -/
def Dec {α : Type} (r : Rd α) (enc : α → List AV) : Prop := (∀ x, (enc x).length = r.size) ∧ ∀ (S : Nat → Nat → Prop) (w : World) (cs : List Value) (x : α), Reps S w [] [] (enc x) cs → r.rel w cs x

theorem dec_int (k : IntKind) : Dec (rInt k) (fun n => [.int k n]) := ⟨fun _ => rfl, fun S w cs x h => by
  cases h with | cons _ _ _ _ _ _ h t => cases h with | int _ _ _ _ h => cases t with | nil => exact ⟨rfl, h⟩⟩
theorem dec_bool : Dec rBool (fun b => [.bool b]) := ⟨fun _ => rfl, fun S w cs x h => by
  cases h with | cons _ _ _ _ _ _ h t => cases h with | bool _ _ _ => cases t with | nil => exact rfl⟩
theorem dec_str : Dec rStr (fun s => [.str s]) := ⟨fun _ => rfl, fun S w cs x h => by
  cases h with | cons _ _ _ _ _ _ h t => cases h with | str _ _ _ h => cases t with | nil => exact ⟨rfl, h⟩⟩
theorem dec_pair {α β : Type} {r : Rd α} {s : Rd β} {f : α → List AV} {g : β → List AV} (hf : Dec r f) (hg : Dec s g) : Dec (rPair r s) (fun x => f x.1 ++ g x.2) := by
  refine ⟨fun x => by rw [List.length_append, hf.1, hg.1]; rfl, fun S w cs x h => ⟨?_, ?_⟩⟩
  · have := h.take r.size
    rw [List.take_append_of_le_length (by rw [hf.1]; exact Nat.le_refl _), ← hf.1 x.1, List.take_length] at this
    rw [hf.1 x.1] at this
    exact hf.2 _ _ _ _ this
  · have := h.drop r.size
    rw [← hf.1 x.1, List.drop_left, hf.1 x.1] at this
    exact hg.2 _ _ _ _ this
theorem dec_map {α β : Type} {r : Rd α} {f : α → β} {g : α → List AV} {g' : β → List AV} (he : ∀ y, ∃ x, f x = y ∧ g' y = g x) (h : Dec r g) : Dec (rMap f r) g' := by
  refine ⟨fun y => ?_, fun S w cs y hy => ?_⟩
  · obtain ⟨x, rfl, h2⟩ := he y; rw [h2]; exact h.1 x
  · obtain ⟨x, rfl, h2⟩ := he y
    rw [h2] at hy
    exact ⟨x, h.2 _ _ _ _ hy, rfl⟩
theorem dec_slice {α : Type} {r : Rd α} {f : α → List AV} (hf : Dec r f) (hpos : 0 < r.size) : Dec (rSlice r) (fun l => [.sl r.size (l.map f)]) := by
  refine ⟨fun _ => rfl, fun S w cs l h => ?_⟩
  cases h with | cons _ _ _ _ _ _ h t => cases t with | nil =>
  obtain ⟨vss, a, cap, hr, hl, hc, rfl⟩ := h.sl_inv
  rw [List.length_map] at hc ⊢
  refine ⟨a, cap, rfl, hc, fun k hk => ?_⟩
  obtain ⟨vs, h1, h2, h3⟩ := hr.get (i := k) (el := f l[k]) (by rw [List.getElem?_map, List.getElem?_eq_getElem hk]; rfl)
  have hlen := hl.1 vs (List.mem_of_getElem? h1)
  obtain ⟨u, hu⟩ : ∃ u, vs[0]? = some u := ⟨_, List.getElem?_eq_getElem (by omega)⟩
  obtain ⟨b, o, ha, _⟩ := hl.2 k vs 0 u h1 hu
  subst ha
  refine ⟨b, o, vs, rfl, hlen, fun j u hj => ?_, hf.2 _ _ _ _ h2⟩
  obtain ⟨b', o', he, _, hx⟩ := hl.2 k vs j u h1 hj
  cases he
  exact hx

/-- A table of known contracts. -/
abbrev ExtT := List (FuncId × (List AV → Option AV))
def extOf : ExtT → Ext
  | [], _ => none
  | (g, k) :: l, f => match Nat.beq g f with
    | true => some k
    | false => extOf l f
def SoundK (P : Program) (g : FuncId) (k : List AV → Option AV) : Prop := ∀ (args : List AV) (v : AV), k args = some v → ∀ (S : Nat → Nat → Prop) (w : World) (vs : List Value), (∀ b o, S b o → ∃ u, w.cell? ⟨b, o, none⟩ = some u) → Reps S w [] [] args vs →
  Calls P g vs.toArray w fun e w' => ∃ u S', e = .returned u ∧ Rep S' w' [] [] v u ∧ (∀ b o, S' b o → ∃ u, w'.cell? ⟨b, o, none⟩ = some u) ∧ SExt S w S' w' ∧ (∀ b o, S' b o → S b o ∨ w.heap.size ≤ b) ∧ Below w.heap.size w w'
theorem sound_extOf {P : Program} : ∀ {l : ExtT}, (∀ p ∈ l, SoundK P p.1 p.2) → SoundExt P (extOf l)
  | [], _ => fun g k h => by simp [extOf] at h
  | (g, k) :: l, hl => fun f k' h => by
    simp only [extOf] at h
    split at h
    · rename_i he
      have he := Nat.eq_of_beq_eq_true he
      cases h
      have := hl (g, k) (by simp)
      rw [← he]; exact this
    · exact sound_extOf (fun p hp => hl p (by simp [hp])) f k' h
/-- A function that tells of one thing a bool. -/
noncomputable def tellK {α : Type} (enc : α → AV) (f : α → Bool) (args : List AV) : Option AV := by
  classical
  exact if h : ∃ x, args = [enc x] then some (.bool (f h.choose)) else none
theorem tellK_eq {α : Type} {enc : α → AV} {f : α → Bool} (hi : ∀ x y, enc x = enc y → x = y) (x : α) : tellK enc f [enc x] = some (.bool (f x)) := by
  have h : ∃ y, [enc x] = [enc y] := ⟨x, rfl⟩
  unfold tellK
  rw [dif_pos h]
  exact congrArg (fun z => some (AV.bool (f z))) (hi _ _ (List.cons.inj h.choose_spec).1).symm
def BoolBelow' (b : Bool) (w : World) (e : Ending) (w' : World) : Prop := e = .returned (.bool b) ∧ Below w.heap.size w w'
theorem sound_tell {P : Program} {g : FuncId} {α : Type} {enc : α → AV} {f : α → Bool} {V : World → Value → α → Prop} (hd : ∀ S w v x, Rep S w [] [] (enc x) v → V w v x) (hc : ∀ x v w, V w v x → Calls P g #[v] w (BoolBelow' (f x) w)) : SoundK P g (tellK enc f) := by
  intro args v h S w vs hS hr
  unfold tellK at h
  split at h
  · rename_i hx
    cases h
    have := hx.choose_spec
    generalize hx.choose = x at *
    subst this
    cases hr with | cons _ _ _ u _ _ h1 t => cases t with | nil =>
    refine (hc x u w (hd _ _ _ _ h1)).mono ?_
    rintro e w' ⟨rfl, hb⟩
    obtain ⟨k1, k2⟩ := sext_below hS hb
    exact ⟨_, S, rfl, .bool _ _ _, k2, k1, fun _ _ h => .inl h, hb⟩
  · cases h
/-- A function of no arguments that yields true. -/
def trueK (args : List AV) : Option AV := match args with
  | [] => some (.bool true)
  | _ => none
theorem sound_true {P : Program} {g : FuncId} (hc : ∀ w, Calls P g #[] w (BoolBelow' true w)) : SoundK P g trueK := by
  intro args v h S w vs hS hr
  match args, h with
  | [], h =>
    cases h
    cases hr with | nil =>
    refine (hc w).mono ?_
    rintro e w' ⟨rfl, hb⟩
    obtain ⟨k1, k2⟩ := sext_below hS hb
    exact ⟨_, S, rfl, .bool _ _ _, k2, k1, fun _ _ h => .inl h, hb⟩
end Go.Proofs.Ytaocgmkcjemecaa
end

/- How the interpreter is used, second part. Parts of the proofs of the laws. Conditions: none. -/
section
namespace Go.Proofs.Ytaocgmkcjemecaa
set_option linter.unusedVariables false

theorem bif_split {α : Type} {c : Bool} {a b r : α} (h1 : c = true → a = r) (h2 : c = false → b = r) : (bif c then a else b) = r := by
  cases c
  · exact h2 rfl
  · exact h1 rfl
/-- A loop: what follows a round stands under a name of its own. -/
theorem rounds_cont {ρ σ : Type} {body : Tm → Hp → (Ex → Tm → Hp → Option ρ) → Option ρ} {keep : Nat → List Nat} {h0 : Nat} {K : Ex → Tm → Hp → Option ρ} {r : Option ρ} (inv : σ → Prop) (tmOf : σ → Tm) (hpOf : σ → Hp) (μ : σ → Nat)
    (hround : ∀ s (cont : Tm → Hp → Option ρ), inv s → (∀ s', inv s' → μ s' < μ s → cont (tmOf s') (hpOf s') = r) →
      forceL force (fun tm => forceHp (fun hp => body tm hp (fun e tm hp => forceL force (fun tm => forceHp (fun hp => match e with
        | .normal => cont tm hp
        | .exit id => K (.exit id) tm hp
        | .ret => K .ret tm hp) (waneHp h0 hp)) (keepTm (keep (exMode e)) h0 hp 0 tm))) (hpOf s)) (tmOf s) = r) :
    ∀ (n : Nat) (s : σ) (tm : Tm) (hp : Hp), inv s → μ s < n → tm = tmOf s → hp = hpOf s → rounds body keep h0 n tm hp K = r :=
  rounds_ind inv tmOf hpOf μ fun s n hi ih => hround s (fun tm hp => rounds body keep h0 n tm hp K) hi fun s' hi' hm' => ih s' _ _ hi' hm' rfl rfl
theorem cont_eq {ρ : Type} {cont : Tm → Hp → Option ρ} {tm tm' : Tm} {hp hp' : Hp} {r : Option ρ} (h : cont tm' hp' = r) (h1 : tm = tm') (h2 : hp = hp') : cont tm hp = r := by rw [h1, h2]; exact h
theorem drop_cons {α : Type} {l : List α} {k : Nat} (h : k < l.length) : ∃ x, l[k]? = some x ∧ l[k] = x ∧ l.drop k = x :: l.drop (k + 1) := ⟨l[k], List.getElem?_eq_getElem h, rfl, List.drop_eq_getElem_cons h⟩
theorem drop_end {α : Type} {l : List α} {k : Nat} (h : k = l.length) : l.drop k = [] := by rw [h, List.drop_length]
theorem wrap_nat (k : Nat) (h : k < 9223372036854775807) : IntKind.i64.wrap (k : Int) = (k : Int) := wrap64 (by omega)
end Go.Proofs.Ytaocgmkcjemecaa
end

/- Units, entries, configurations as the interpreter's values. Parts of the proofs of the laws. Conditions: none. -/
section
namespace Go.Proofs.Ytaocgmkcjemecaa
open Go.RowKit
set_option linter.unusedVariables false
set_option linter.unusedSimpArgs false

def encI (n : Int) : List AV := [.int .i64 n]
abbrev aIs (l : List Int) : AV := .sl 1 (l.map encI)
def encRow (l : List Int) : List AV := [aIs l]
abbrev aRows (l : List (List Int)) : AV := .sl 1 (l.map encRow)
def encE (x : EntryS) : List AV := [.int .i64 x.loc, .int .i64 x.n]
abbrev aEs (b : List EntryS) : AV := .sl 2 (b.map encE)
def encBuf (b : List EntryS) : List AV := [aEs b]
abbrev aBufs (l : List (List EntryS)) : AV := .sl 1 (l.map encBuf)
def encOp (x : OpS) : List AV := [.int .i64 x.op, .int .i64 x.n, .int .i64 x.t]
abbrev aOps (l : List OpS) : AV := .sl 3 (l.map encOp)
def encIn (x : InstrS) : List AV := [.int .i64 x.op, .int .i64 x.reg, .int .i64 x.loc, aOps x.e, aOps x.f, .bool x.ne, .int .i64 x.goal]
abbrev aIns (l : List InstrS) : AV := .sl 7 (l.map encIn)
def encThr (l : List InstrS) : List AV := [aIns l]
abbrev aCode (l : List (List InstrS)) : AV := .sl 1 (l.map encThr)
def cellsU (u : UnitS) : List AV := [.int .i64 u.mod, aIs u.init, aIs u.regs, aCode u.code]
abbrev aU (u : UnitS) : AV := .agg (cellsU u)
def cellsC (c : ConfS) : List AV := [aIs c.pc, aRows c.regs, aIs c.mem, aBufs c.buf]
abbrev aC (c : ConfS) : AV := .agg (cellsC c)

theorem e_int : Enc rI encI := enc_int _
theorem e_ints : Enc rInts (fun l => [aIs l]) := enc_slice e_int
theorem e_rows : Enc rRows (fun l => [aRows l]) := enc_slice e_ints
theorem e_entry : Enc rEntry encE := enc_map (fun _ => rfl) (enc_pair e_int e_int)
theorem e_entries : Enc rEntries (fun l => [aEs l]) := enc_slice e_entry
theorem e_bufs : Enc rBufs (fun l => [aBufs l]) := enc_slice e_entries
theorem e_op : Enc rOp encOp := enc_map (fun _ => rfl) (enc_pair e_int (enc_pair e_int e_int))
theorem e_ops : Enc rOps (fun l => [aOps l]) := enc_slice e_op
theorem e_instr : Enc rInstr encIn := enc_map (fun _ => rfl) (enc_pair e_int (enc_pair e_int (enc_pair e_int (enc_pair e_ops (enc_pair e_ops (enc_pair enc_bool e_int))))))
theorem e_instrs : Enc rInstrs (fun l => [aIns l]) := enc_slice e_instr
theorem e_code : Enc rCode (fun l => [aCode l]) := enc_slice e_instrs
theorem e_unit : Enc rUnit cellsU := enc_map (fun _ => rfl) (enc_pair e_int (enc_pair e_ints (enc_pair e_ints e_code)))
theorem e_conf : Enc rConf cellsC := enc_map (fun _ => rfl) (enc_pair e_ints (enc_pair e_rows (enc_pair e_ints e_bufs)))
theorem d_int : Dec rI encI := dec_int _
theorem d_ints : Dec rInts (fun l => [aIs l]) := dec_slice d_int (by decide)
theorem d_rows : Dec rRows (fun l => [aRows l]) := dec_slice d_ints (by decide)
theorem d_entry : Dec rEntry encE := dec_map (fun y => ⟨(y.loc, y.n), rfl, rfl⟩) (dec_pair d_int d_int)
theorem d_entries : Dec rEntries (fun l => [aEs l]) := dec_slice d_entry (by decide)
theorem d_bufs : Dec rBufs (fun l => [aBufs l]) := dec_slice d_entries (by decide)
theorem d_op : Dec rOp encOp := dec_map (fun y => ⟨(y.op, y.n, y.t), rfl, rfl⟩) (dec_pair d_int (dec_pair d_int d_int))
theorem d_ops : Dec rOps (fun l => [aOps l]) := dec_slice d_op (by decide)
theorem d_instr : Dec rInstr encIn := dec_map (fun y => ⟨(y.op, y.reg, y.loc, y.e, y.f, y.ne, y.goal), rfl, rfl⟩) (dec_pair d_int (dec_pair d_int (dec_pair d_int (dec_pair d_ops (dec_pair d_ops (dec_pair dec_bool d_int))))))
theorem d_instrs : Dec rInstrs (fun l => [aIns l]) := dec_slice d_instr (by decide)
theorem d_code : Dec rCode (fun l => [aCode l]) := dec_slice d_instrs (by decide)
theorem d_unit : Dec rUnit cellsU := dec_map (fun y => ⟨(y.mod, y.init, y.regs, y.code), rfl, rfl⟩) (dec_pair d_int (dec_pair d_ints (dec_pair d_ints d_code)))
theorem d_conf : Dec rConf cellsC := dec_map (fun y => ⟨(y.pc, y.regs, y.mem, y.buf), rfl, rfl⟩) (dec_pair d_ints (dec_pair d_rows (dec_pair d_ints d_bufs)))

theorem map_inj {α β : Type} {f : α → β} (hf : ∀ x y, f x = f y → x = y) : ∀ {l l' : List α}, l.map f = l'.map f → l = l'
  | [], [], _ => rfl
  | [], _ :: _, h => by simp at h
  | _ :: _, [], h => by simp at h
  | a :: l, b :: l', h => by
    simp only [List.map_cons, List.cons.injEq] at h
    rw [hf _ _ h.1, map_inj hf h.2]
theorem encI_inj {x y : Int} (h : encI x = encI y) : x = y := by simpa [encI] using h
theorem aIs_inj {l l' : List Int} (h : aIs l = aIs l') : l = l' := map_inj (fun _ _ => encI_inj) (AV.sl.inj h).2
theorem encOp_inj {x y : OpS} (h : encOp x = encOp y) : x = y := by
  cases x; cases y; simp [encOp] at h; simp [h]
theorem aOps_inj {l l' : List OpS} (h : aOps l = aOps l') : l = l' := map_inj (fun _ _ => encOp_inj) (AV.sl.inj h).2
theorem encIn_inj {x y : InstrS} (h : encIn x = encIn y) : x = y := by
  cases x; cases y
  simp only [encIn, List.cons.injEq, AV.int.injEq, AV.bool.injEq, true_and, and_true] at h
  obtain ⟨h1, h2, h3, h4, h5, h6, h7⟩ := h
  simp [h1, h2, h3, h6, h7, aOps_inj h4, aOps_inj h5]
theorem aIns_inj {l l' : List InstrS} (h : aIns l = aIns l') : l = l' := map_inj (fun _ _ => encIn_inj) (AV.sl.inj h).2
theorem encThr_inj {l l' : List InstrS} (h : encThr l = encThr l') : l = l' := aIns_inj (by simpa only [encThr, List.cons.injEq, and_true] using h)
theorem aU_inj (x y : UnitS) (h : aU x = aU y) : x = y := by
  cases x; cases y
  simp only [aU, cellsU, AV.agg.injEq, List.cons.injEq, AV.int.injEq, true_and, and_true] at h
  obtain ⟨h1, h2, h3, h4⟩ := h
  simp [h1, aIs_inj h2, aIs_inj h3, map_inj (fun _ _ => encThr_inj) (AV.sl.inj h4).2]
theorem dec_unitV (S : Nat → Nat → Prop) (w : World) (v : Value) (u : UnitS) (h : Rep S w [] [] (aU u) v) : UnitV w v u := by
  obtain ⟨vs, hr, _, rfl⟩ := h.agg_inv
  exact unit_of (cs := vs.toArray) (d_unit.2 _ _ _ _ hr)
end Go.Proofs.Ytaocgmkcjemecaa
end
