/- Parts of the proofs: what they lean on. Conditions: none. -/
import Derived.OpenShut
import Derived.Test.YtpnhafdimkmbbaaLegS8
section
namespace Go.Proofs.Ytpnhafdimkmbbaa
open Go.RowKit
set_option linter.unusedVariables false
set_option linter.unusedSimpArgs false
structure OpS where
  op : Int
  n : Int
  t : Int
  deriving DecidableEq
structure InstrS where
  op : Int
  reg : Int
  loc : Int
  e : List OpS
  f : List OpS
  ne : Bool
  goal : Int
  deriving DecidableEq
structure UnitS where
  mod : Int
  init : List Int
  regs : List Int
  code : List (List InstrS)
  deriving DecidableEq
structure EntryS where
  loc : Int
  n : Int
  deriving DecidableEq
structure ConfS where
  pc : List Int
  regs : List (List Int)
  mem : List Int
  buf : List (List EntryS)
  deriving DecidableEq
abbrev rI : Rd Int := rInt .i64
def rInts : Rd (List Int) := rSlice rI
def rOp : Rd OpS := rMap (fun x => ⟨x.1, x.2.1, x.2.2⟩) (rPair rI (rPair rI rI))
def rOps : Rd (List OpS) := rSlice rOp
def rInstr : Rd InstrS := rMap (fun x => ⟨x.1, x.2.1, x.2.2.1, x.2.2.2.1, x.2.2.2.2.1, x.2.2.2.2.2.1, x.2.2.2.2.2.2⟩) (rPair rI (rPair rI (rPair rI (rPair rOps (rPair rOps (rPair rBool rI))))))
def rInstrs : Rd (List InstrS) := rSlice rInstr
def rEntry : Rd EntryS := rMap (fun x => ⟨x.1, x.2⟩) (rPair rI rI)
def rEntries : Rd (List EntryS) := rSlice rEntry
theorem mono_ints : Mono rInts := mono_slice (mono_int _)
theorem mono_op : Mono rOp := mono_map _ (mono_pair (mono_int _) (mono_pair (mono_int _) (mono_int _)))
theorem mono_ops : Mono rOps := mono_slice mono_op
theorem mono_instr : Mono rInstr := mono_map _ (mono_pair (mono_int _) (mono_pair (mono_int _) (mono_pair (mono_int _) (mono_pair mono_ops (mono_pair mono_ops (mono_pair mono_bool (mono_int _)))))))
theorem mono_instrs : Mono rInstrs := mono_slice mono_instr
theorem mono_entry : Mono rEntry := mono_map _ (mono_pair (mono_int _) (mono_int _))
theorem mono_entries : Mono rEntries := mono_slice mono_entry
abbrev Sl {α : Type} (r : Rd α) (w : World) (v : Value) (l : List α) : Prop := (rSlice r).rel w [v] l
theorem Sl.mono {α : Type} {r : Rd α} (hm : Mono r) {w w' : World} {v : Value} {l : List α} (h : Sl r w v l) (hb : Below w.heap.size w w') : Sl r w' v l := mono_slice hm _ _ _ _ h hb
theorem Sl.len {α : Type} {r : Rd α} {w : World} {v : Value} {l : List α} (h : Sl r w v l) : l.length ≤ 9223372036854775807 := by
  obtain ⟨a, cap, _, ⟨h1, h2, _⟩, _⟩ := h
  unfold maxLen at h2; omega
def UnitV (w : World) (v : Value) (u : UnitS) : Prop := ∃ vi vr vc, v = .agg #[.int .i64 u.mod, vi, vr, vc] ∧ Sl rI w vi u.init ∧ Sl rI w vr u.regs ∧ Sl rInstrs w vc u.code ∧ -9223372036854775808 ≤ u.mod ∧ u.mod ≤ 9223372036854775807
theorem UnitV.mono {w w' : World} {v : Value} {u : UnitS} (h : UnitV w v u) (hb : Below w.heap.size w w') : UnitV w' v u := by
  obtain ⟨vi, vr, vc, h0, h1, h2, h3, h4⟩ := h
  exact ⟨vi, vr, vc, h0, h1.mono (mono_int _) hb, h2.mono (mono_int _) hb, h3.mono mono_instrs hb, h4⟩
def ConfV (w : World) (v : Value) (c : ConfS) : Prop := ∃ vp vr vm vb, v = .agg #[vp, vr, vm, vb] ∧ Sl rI w vp c.pc ∧ Sl rInts w vr c.regs ∧ Sl rI w vm c.mem ∧ Sl rEntries w vb c.buf
theorem ConfV.mono {w w' : World} {v : Value} {c : ConfS} (h : ConfV w v c) (hb : Below w.heap.size w w') : ConfV w' v c := by
  obtain ⟨vp, vr, vm, vb, h0, h1, h2, h3, h4⟩ := h
  exact ⟨vp, vr, vm, vb, h0, h1.mono (mono_int _) hb, h2.mono mono_ints hb, h3.mono (mono_int _) hb, h4.mono mono_entries hb⟩
end Go.Proofs.Ytpnhafdimkmbbaa
end
section
namespace Go.Proofs.Ytpnhafdimkmbbaa
open Go.RowKit
set_option linter.unusedVariables false
set_option linter.unusedSimpArgs false
def SAll (w : World) (b o : Nat) : Prop := ∃ u, stay w b o = some u
def Enc {α : Type} (r : Rd α) (enc : α → List AV) : Prop := ∀ (w : World) (cs : List Value) (x : α), r.rel w cs x → Reps (SAll w) w [] [] (enc x) cs ∧ Ones cs
theorem enc_int (k : IntKind) : Enc (rInt k) (fun n => [.int k n]) := by
  rintro w cs x ⟨rfl, h⟩
  exact ⟨.cons _ _ _ _ _ _ (.int _ _ _ _ h) (.nil _ _), by intro v hv; simp at hv; subst hv; rfl⟩
theorem enc_bool : Enc rBool (fun b => [.bool b]) := by
  rintro w cs x rfl
  exact ⟨.cons _ _ _ _ _ _ (.bool _ _ _) (.nil _ _), by intro v hv; simp at hv; subst hv; rfl⟩
theorem enc_str : Enc rStr (fun s => [.str s]) := by
  rintro w cs x ⟨rfl, h⟩
  exact ⟨.cons _ _ _ _ _ _ (.str _ _ _ h) (.nil _ _), by intro v hv; simp at hv; subst hv; rfl⟩
theorem enc_pair {α β : Type} {r : Rd α} {s : Rd β} {f : α → List AV} {g : β → List AV} (hf : Enc r f) (hg : Enc s g) : Enc (rPair r s) (fun x => f x.1 ++ g x.2) := by
  rintro w cs x ⟨h1, h2⟩
  obtain ⟨a1, a2⟩ := hf _ _ _ h1
  obtain ⟨b1, b2⟩ := hg _ _ _ h2
  have := a1.append b1
  rw [List.take_append_drop] at this
  refine ⟨this, fun v hv => ?_⟩
  rw [← List.take_append_drop r.size cs, List.mem_append] at hv
  exact hv.elim (a2 v) (b2 v)
theorem enc_map {α β : Type} {r : Rd α} {f : α → β} {g : α → List AV} {g' : β → List AV} (he : ∀ x, g' (f x) = g x) (h : Enc r g) : Enc (rMap f r) g' := by
  rintro w cs x ⟨y, h1, rfl⟩
  rw [he]; exact h _ _ _ h1
theorem repss_of {S : Nat → Nat → Prop} {w : World} : ∀ {els : List (List AV)} {vss : List (List Value)}, els.length = vss.length → (∀ (k : Nat) (el : List AV) (vs : List Value), els[k]? = some el → vss[k]? = some vs → Reps S w [] [] el vs ∧ Ones vs) → Repss S w els vss
  | [], [], _, _ => .nil
  | el :: els, vs :: vss, hl, h => .cons _ _ _ _ (h 0 el vs rfl rfl).1 (h 0 el vs rfl rfl).2 (repss_of (by simpa using hl) fun k a b h1 h2 => h (k + 1) a b (by simpa using h1) (by simpa using h2))
theorem enc_slice {α : Type} {r : Rd α} {f : α → List AV} (hf : Enc r f) : Enc (rSlice r) (fun l => [.sl r.size (l.map f)]) := by
  rintro w cs l ⟨a, cap, rfl, hc, hi⟩
  obtain ⟨vss, hlen, hv⟩ := list_of (n := l.length) (p := fun k cs' => ∃ hk : k < l.length, ∃ b off, a = some ⟨b, off, none⟩ ∧ cs'.length = r.size ∧ (∀ j u, cs'[j]? = some u → w.cell? ⟨b, off + k * r.size + j, none⟩ = some u) ∧ r.rel w cs' l[k]) (fun k hk => by
    obtain ⟨b, off, cs', h⟩ := hi k hk
    exact ⟨cs', hk, b, off, h⟩)
  have hrep : Repss (SAll w) w (l.map f) vss := by
    refine repss_of (by rw [List.length_map, hlen]) fun k el vs h1 h2 => ?_
    obtain ⟨hk2, rfl⟩ := List.getElem?_eq_some_iff.1 h2
    obtain ⟨hk, b, off, _, _, _, h6⟩ := hv k hk2
    rw [List.getElem?_map, List.getElem?_eq_getElem hk] at h1
    simp at h1; subst h1
    exact hf _ _ _ h6
  refine ⟨.cons _ _ _ _ _ _ ?_ (.nil _ _), by intro v hv; simp at hv; subst hv; rfl⟩
  have := Rep.sl (S := SAll w) (w := w) [] [] r.size (l.map f) vss a cap hrep ⟨fun vs hm => ?_, fun j vs t u h1 h2 => ?_⟩ (by rw [List.length_map]; exact hc)
  · rw [List.length_map] at this; exact this
  · obtain ⟨k, hk, rfl⟩ := List.getElem_of_mem hm
    obtain ⟨_, _, _, _, h, _⟩ := hv k hk
    exact h
  · obtain ⟨hk2, rfl⟩ := List.getElem?_eq_some_iff.1 h1
    obtain ⟨hk, b, off, h4, h5, h6, _⟩ := hv j hk2
    exact ⟨b, off, h4, ⟨_, (stay_of_cell (h6 t u h2)).choose_spec⟩, h6 t u h2⟩
theorem law_calls {X : Ext} (hX : SoundExt Try.prog X) {n : Nat} {g : FuncId} {args : List AV} {W : World} {vs : List Value} (h : callN Try.prog HH X n g args [] = some (.bool true, [])) (hr : Reps (SAll W) W [] [] args vs) : Calls Try.prog g vs.toArray W fun e w' => e = .returned (.bool true) ∧ Below W.heap.size W w' := by
  refine (cN_sound hX n false g args [] _ _ h W.heap.size (SAll W) W [] vs ⟨rfl, Nat.le_refl _, fun _ _ ⟨u, hu⟩ => ⟨u, hu, fun hb => absurd (stay_lt hu) (by omega)⟩, fun id o ho => by simp at ho, fun i j b hi => by simp [blockAt] at hi⟩ hr).mono ?_
  rintro e w' ⟨u, S', φ', rfl, hu, _, ht⟩
  exact ⟨by rw [hu.bool_inv], ht.below⟩
theorem stay_below {w w' : World} (hb : Below w.heap.size w w') {b o : Nat} (h : ∃ u, stay w b o = some u) : stay w' b o = stay w b o := by
  obtain ⟨u, hu⟩ := h
  exact stay_heap (hb.block b (stay_lt hu)) o
theorem SAll.ext {w w' : World} (hb : Below w.heap.size w w') : SExt (SAll w) w (SAll w') w' := fun b o h => ⟨by
  have := stay_below hb h
  obtain ⟨u, hu⟩ := h
  exact ⟨u, this.trans hu⟩, stay_below hb h⟩
theorem sext_below {S : Nat → Nat → Prop} {w w' : World} (hc : ∀ b o, S b o → ∃ u, stay w b o = some u) (hb : Below w.heap.size w w') : SExt S w S w' ∧ ∀ b o, S b o → ∃ u, stay w' b o = some u ∧ (w.heap.size ≤ b → u.2.2 = (0, 0)) :=
  ⟨fun b o h => ⟨h, stay_below hb (hc b o h)⟩, fun b o h => by
    obtain ⟨u, hu⟩ := hc b o h
    exact ⟨u, (stay_below hb ⟨u, hu⟩).trans hu, fun hb => absurd (stay_lt hu) (by omega)⟩⟩
end Go.Proofs.Ytpnhafdimkmbbaa
end
section
namespace Go.Proofs.Ytpnhafdimkmbbaa
open Go.RowKit
set_option linter.unusedVariables false
set_option linter.unusedSimpArgs false
abbrev ExtT := List (FuncId × (List AV → Option AV))
def extOf : ExtT → Ext
  | [], _ => none
  | (g, k) :: l, f => match Nat.beq g f with
    | true => some k
    | false => extOf l f
def SoundK (P : Program) (g : FuncId) (k : List AV → Option AV) : Prop := ∀ (args : List AV) (v : AV), k args = some v → ∀ (S : Nat → Nat → Prop) (w : World) (vs : List Value), (∀ b o, S b o → ∃ u, stay w b o = some u) → Reps S w [] [] args vs →
  Calls P g vs.toArray w fun e w' => ∃ u S', e = .returned u ∧ Rep S' w' [] [] v u ∧ (∀ b o, S' b o → ∃ u, stay w' b o = some u ∧ (w.heap.size ≤ b → u.2.2 = (0, 0))) ∧ SExt S w S' w' ∧ (∀ b o, S' b o → S b o ∨ w.heap.size ≤ b) ∧ Below w.heap.size w w'
theorem sound_extOf {P : Program} : ∀ {l : ExtT}, (∀ p ∈ l, SoundK P p.1 p.2) → SoundExt P (extOf l)
  | [], _ => fun g k h => by simp [extOf] at h
  | (g, k) :: l, hl => fun f k' h => by
    simp only [extOf] at h
    split at h
    · rename_i he
      have he := Nat.eq_of_beq_eq_true he
      cases h
      have := hl (g, k) (by simp)
      rw [← he]; exact this
    · exact sound_extOf (fun p hp => hl p (by simp [hp])) f k' h
def BoolBelow' (b : Bool) (w : World) (e : Ending) (w' : World) : Prop := e = .returned (.bool b) ∧ Below w.heap.size w w'
end Go.Proofs.Ytpnhafdimkmbbaa
end
section
namespace Go.Proofs.Ytpnhafdimkmbbaa
set_option linter.unusedVariables false
theorem cont_eq {ρ : Type} {cont : Tm → Hp → Option ρ} {tm tm' : Tm} {hp hp' : Hp} {r : Option ρ} (h : cont tm' hp' = r) (h1 : tm = tm') (h2 : hp = hp') : cont tm hp = r := by rw [h1, h2]; exact h
end Go.Proofs.Ytpnhafdimkmbbaa
end
section
namespace Go.Proofs.Ytpnhafdimkmbbaa
open Go.RowKit
set_option linter.unusedVariables false
set_option linter.unusedSimpArgs false
def encI (n : Int) : List AV := [.int .i64 n]
abbrev aIs (l : List Int) : AV := .sl 1 (l.map encI)
def encRow (l : List Int) : List AV := [aIs l]
end Go.Proofs.Ytpnhafdimkmbbaa
end
section
namespace Go.Proofs.Ytpnhafdimkmbbaa
set_option linter.unusedVariables false
inductive LR (τ ν : Type) where
  | out (t : τ)
  | ret (v : ν)
  deriving DecidableEq
def LRes {ρ τ ν : Type} (K : Ex → Tm → Hp → Option ρ) (id : Nat) (tmX : τ → (Nat → Nat) → Tm) (hpX : τ → (Nat → Nat) → Hp) (encR : ν → ρ) (r : Option ρ) : LR τ ν → Prop
  | .out t => ∀ a, K (.exit id) (tmX t a) (hpX t a) = r
  | .ret v => r = some (encR v)
theorem rounds_sim {ρ σ τ ν : Type} {body : Tm → Hp → (Ex → Tm → Hp → Option ρ) → Option ρ} {keep : Nat → List Nat} {h0 : Nat} {K : Ex → Tm → Hp → Option ρ} {r : Option ρ} (id : Nat) (tmOf : σ → (Nat → Nat) → Tm) (hpOf : σ → (Nat → Nat) → Hp) (tmX : τ → (Nat → Nat) → Tm) (hpX : τ → (Nat → Nat) → Hp) (encR : ν → ρ) (L : Nat → σ → Option (LR τ ν)) (hL : ∀ s, L 0 s = none) (o : LR τ ν)
    (hround : ∀ (k : Nat) (s : σ) (a : Nat → Nat) (K' : Ex → Tm → Hp → Option ρ) (cont : Tm → Hp → Option ρ), (∀ tm hp, K' .ret tm hp = K .ret tm hp) → (∀ s' a', L k s' = some o → cont (tmOf s' a') (hpOf s' a') = r) → L (k + 1) s = some o → LRes K' id tmX hpX encR r o →
      forceL force (fun tm => forceHp (fun hp => body tm hp (fun e tm hp => forceL force (fun tm => forceHp (fun hp => match e with
        | .normal => cont tm hp
        | .exit id => K' (.exit id) tm hp
        | .ret => K' .ret tm hp) (waneHp h0 hp)) (keepTm (keep (exMode e)) h0 hp 0 tm))) (hpOf s a)) (tmOf s a) = r) :
    ∀ (n : Nat) (s : σ) (a : Nat → Nat) (tm : Tm) (hp : Hp), L n s = some o → LRes K id tmX hpX encR r o → tm = tmOf s a → hp = hpOf s a → rounds body keep h0 n tm hp K = r := by
  intro n
  induction n with
  | zero => intro s a tm hp h; rw [hL] at h; cases h
  | succ n ih =>
    intro s a tm hp h hr h1 h2
    subst h1; subst h2
    unfold rounds
    have := hround n s a K (fun tm hp => rounds body keep h0 n tm hp K) (fun _ _ => rfl) (fun s' a' h' => ih s' a' _ _ h' hr rfl rfl) h hr
    rw [forceL_eq force_eq, forceHp_eq] at this
    exact this
def encBl (b : Bool) : List AV := [.bool b]
def encS (s : List UInt8) : List AV := [.str s]
def fieldsOf (P : Program) (t : TypeId) : List Field := match P.underlying t with
  | some (.struct fs) => fs.toList
  | _ => []
theorem chk_some {α : Type} {c : Bool} {a : Option α} {r : α} (h : (bif c then a else none) = some r) : c = true ∧ a = some r := by
  cases c
  · cases h
  · exact ⟨rfl, h⟩
theorem bind_some {α β : Type} {o : Option α} {f : α → Option β} {r : β} (h : o.bind f = some r) : ∃ x, o = some x ∧ f x = some r := by
  cases o with
  | none => cases h
  | some x => exact ⟨x, rfl, h⟩
theorem chk_some2 {α : Type} {c : Bool} {a : Option α} {r : α} {G : Prop} (h : (bif c then a else none) = some r) (h1 : c = true → a = some r → G) : G := h1 (chk_some h).1 (chk_some h).2
theorem bind_some2 {α β : Type} {o : Option α} {f : α → Option β} {r : β} {G : Prop} (h : o.bind f = some r) (k : ∀ x, o = some x → f x = some r → G) : G := by
  obtain ⟨x, h1, h2⟩ := bind_some h
  exact k x h1 h2
def idx {α : Type} (l : List α) (i : Int) : Option α := bif decide (0 ≤ i) then l[i.toNat]? else none
theorem idx_lt {α : Type} {l : List α} {i : Int} {x : α} (h : idx l i = some x) : 0 ≤ i ∧ i < l.length ∧ l[i.toNat]? = some x := by
  unfold idx at h
  by_cases h0 : 0 ≤ i
  · rw [decide_eq_true h0] at h
    have := (List.getElem?_eq_some_iff.1 h).1
    exact ⟨h0, by omega, h⟩
  · rw [decide_eq_false h0] at h; cases h
theorem idx_in {α : Type} {l : List α} {i : Int} {x : α} (h : idx l i = some x) : (decide (0 ≤ i) && decide (i < (l.length : Int))) = true := by
  obtain ⟨h1, h2, _⟩ := idx_lt h
  rw [decide_eq_true h1, decide_eq_true h2]; rfl
theorem idx_in' {α β : Type} {l : List α} {f : α → β} {i : Int} {x : α} (h : idx l i = some x) : (decide (0 ≤ i) && decide (i < ((l.map f).length : Int))) = true := by
  rw [List.length_map]; exact idx_in h
theorem idx_nth {α : Type} {f : α → List AV} {l : List α} {i : Int} {x : α} (h : idx l i = some x) : nth? (l.map f) i.toNat = some (f x) := by
  rw [nth?_eq, List.getElem?_map, (idx_lt h).2.2]; rfl
theorem idx_str {l : List UInt8} {i : Int} {x : UInt8} (h : idx l i = some x) : nth? l i.toNat = some x := by rw [nth?_eq, (idx_lt h).2.2]
theorem idx_nat {α : Type} (l : List α) (k : Nat) : idx l (k : Int) = l[k]? := by simp [idx]
theorem app_row {n a a' k k' b B : Nat} (h : decide ((a + k) * B ≤ 140737488355328) = true) (hn : n = a) (ha : a' = a) (hk : k' = k) (hb : b + 1 = B) : (decide (n = a') && decide ((a' + k') * (b + 1) ≤ 140737488355328)) = true := by
  subst hn; subst ha; subst hk; rw [hb, h]; simp
theorem app_row2 {a a' k k' b B : Nat} (h : decide ((a + k) * B ≤ 140737488355328) = true) (ha : a' = a) (hk : k' = k) (hb : b + 1 = B) : (decide True && decide ((a' + k') * (b + 1) ≤ 140737488355328)) = true := by
  subst ha; subst hk; rw [hb, h]; simp
theorem app_nil {k k' b B : Nat} (h : decide (k * B ≤ 140737488355328) = true) (hk : k' = k) (hb : b + 1 = B) : decide (k' * (b + 1) ≤ 140737488355328) = true := by
  subst hk; rw [hb, h]
theorem take_map_len {α β : Type} (f : α → β) (l : List α) : List.take l.length (List.map f l) = List.map f l := List.take_of_length_le (by rw [List.length_map]; exact Nat.le_refl _)
theorem kont_eq {ρ : Type} {K : Ex → Tm → Hp → Option ρ} {e : Ex} {tm tm' : Tm} {hp hp' : Hp} {r : Option ρ} (h : K e tm' hp' = r) (h1 : tm = tm') (h2 : hp = hp') : K e tm hp = r := by rw [h1, h2]; exact h
theorem own_in {α β : Type} {l : List α} {f : α → β} {i : Int} {x : α} (h : idx l i = some x) : (decide (0 ≤ i) && decide (i < ((l.length : Nat) : Int)) && decide (0 + l.length ≤ (l.map f).length)) = true := by
  rw [idx_in h]; simp
theorem own_in' {α : Type} {l : List α} {i : Int} {x : α} (h : idx l i = some x) : (decide (0 ≤ i) && decide (i < ((l.length : Nat) : Int)) && decide (0 + l.length ≤ l.length)) = true := by
  rw [idx_in h]; simp
theorem cut_le {i : Int} {n : Nat} (h : (decide (0 ≤ i) && decide (i ≤ (n : Int))) = true) : i.toNat ≤ n := by
  simp only [Bool.and_eq_true, decide_eq_true_eq] at h
  omega
def copyL {α : Type} (l : List α) (off n : Nat) (src : List α) : List α := if off + n ≤ l.length then List.take off l ++ (List.take n src ++ List.drop (off + Nat.min src.length n) l) else l
theorem length_copyL {α : Type} {l : List α} {off n : Nat} {src : List α} : (copyL l off n src).length = l.length := by
  unfold copyL
  split
  · have : Nat.min src.length n = min src.length n := rfl
    simp only [List.length_append, List.length_take, List.length_drop, this]; omega
  · rfl
theorem dec_self (n : Nat) : decide (n = n) = true := by simp
def mget {κ ν : Type} [DecidableEq κ] : List (κ × ν) → κ → ν → ν
  | [], _, z => z
  | p :: l, k, z => if k = p.1 then p.2 else mget l k z
def mhas {κ ν : Type} [DecidableEq κ] : List (κ × ν) → κ → Bool
  | [], _ => false
  | p :: l, k => if k = p.1 then true else mhas l k
def mset {κ ν : Type} [DecidableEq κ] : List (κ × ν) → κ → ν → List (κ × ν)
  | [], k, v => [(k, v)]
  | p :: l, k, v => if k = p.1 then (p.1, v) :: l else p :: mset l k v
theorem keyB_str (s u : List UInt8) : keyB (.str s) (.str u) = decide (s = u) := by
  show (s == u) = _
  by_cases h : s = u <;> simp [h]
theorem look_map {κ ν : Type} [DecidableEq κ] {ek : κ → AV} {ev : ν → AV} {c : κ × ν → List AV} (hc : ∀ p, c p = [ek p.1, ev p.2]) (hk : ∀ a b, keyB (ek a) (ek b) = decide (a = b)) (k : κ) (z : ν) : ∀ l : List (κ × ν), mpLook (ev z) (l.map c) (ek k) = ev (mget l k z)
  | [] => rfl
  | p :: l => by
    rw [List.map_cons, hc]
    simp only [mpLook, mget, hk, look_map hc hk k z l]
    by_cases h : k = p.1 <;> simp [h]
theorem has_map {κ ν : Type} [DecidableEq κ] {ek : κ → AV} {ev : ν → AV} {c : κ × ν → List AV} (hc : ∀ p, c p = [ek p.1, ev p.2]) (hk : ∀ a b, keyB (ek a) (ek b) = decide (a = b)) (k : κ) : ∀ l : List (κ × ν), mpHas (l.map c) (ek k) = mhas l k
  | [] => rfl
  | p :: l => by
    rw [List.map_cons, hc]
    simp only [mpHas, mhas, hk, has_map hc hk k l]
    by_cases h : k = p.1 <;> simp [h]
theorem set_map {κ ν : Type} [DecidableEq κ] {ek : κ → AV} {ev : ν → AV} {c : κ × ν → List AV} (hc : ∀ p, c p = [ek p.1, ev p.2]) (hk : ∀ a b, keyB (ek a) (ek b) = decide (a = b)) (k : κ) (v : ν) : ∀ l : List (κ × ν), mpSet (l.map c) (ek k) (ev v) = (mset l k v).map c
  | [] => by rw [mset, List.map_cons, hc]; rfl
  | p :: l => by
    rw [List.map_cons, hc]
    simp only [mpSet, mset, hk, set_map hc hk k v l]
    by_cases h : k = p.1 <;> simp [h, hc]
end Go.Proofs.Ytpnhafdimkmbbaa
end
