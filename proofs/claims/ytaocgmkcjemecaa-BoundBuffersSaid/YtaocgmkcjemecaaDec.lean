/- The interpreter's closed values as data in memory; contracts that are known beside the interpreter. Parts of the proofs of the laws. Conditions: none. -/
import Derived.Test.YtaocgmkcjemecaaEnc
namespace Go.Proofs.Ytaocgmkcjemecaa
open Go.RowKit
set_option linter.unusedVariables false
set_option linter.unusedSimpArgs false

/-- What stands for a thing's interpreter's cells reads as that thing. -/
def Dec {α : Type} (r : Rd α) (enc : α → List AV) : Prop := (∀ x, (enc x).length = r.size) ∧ ∀ (S : Nat → Nat → Prop) (w : World) (cs : List Value) (x : α), Reps S w [] [] (enc x) cs → r.rel w cs x

theorem dec_int (k : IntKind) : Dec (rInt k) (fun n => [.int k n]) := ⟨fun _ => rfl, fun S w cs x h => by
  cases h with | cons _ _ _ _ _ _ h t => cases h with | int _ _ _ _ h => cases t with | nil => exact ⟨rfl, h⟩⟩
theorem dec_bool : Dec rBool (fun b => [.bool b]) := ⟨fun _ => rfl, fun S w cs x h => by
  cases h with | cons _ _ _ _ _ _ h t => cases h with | bool _ _ _ => cases t with | nil => exact rfl⟩
theorem dec_str : Dec rStr (fun s => [.str s]) := ⟨fun _ => rfl, fun S w cs x h => by
  cases h with | cons _ _ _ _ _ _ h t => cases h with | str _ _ _ h => cases t with | nil => exact ⟨rfl, h⟩⟩
theorem dec_pair {α β : Type} {r : Rd α} {s : Rd β} {f : α → List AV} {g : β → List AV} (hf : Dec r f) (hg : Dec s g) : Dec (rPair r s) (fun x => f x.1 ++ g x.2) := by
  refine ⟨fun x => by rw [List.length_append, hf.1, hg.1]; rfl, fun S w cs x h => ⟨?_, ?_⟩⟩
  · have := h.take r.size
    rw [List.take_append_of_le_length (by rw [hf.1]; exact Nat.le_refl _), ← hf.1 x.1, List.take_length] at this
    rw [hf.1 x.1] at this
    exact hf.2 _ _ _ _ this
  · have := h.drop r.size
    rw [← hf.1 x.1, List.drop_left, hf.1 x.1] at this
    exact hg.2 _ _ _ _ this
theorem dec_map {α β : Type} {r : Rd α} {f : α → β} {g : α → List AV} {g' : β → List AV} (he : ∀ y, ∃ x, f x = y ∧ g' y = g x) (h : Dec r g) : Dec (rMap f r) g' := by
  refine ⟨fun y => ?_, fun S w cs y hy => ?_⟩
  · obtain ⟨x, rfl, h2⟩ := he y; rw [h2]; exact h.1 x
  · obtain ⟨x, rfl, h2⟩ := he y
    rw [h2] at hy
    exact ⟨x, h.2 _ _ _ _ hy, rfl⟩
theorem dec_slice {α : Type} {r : Rd α} {f : α → List AV} (hf : Dec r f) (hpos : 0 < r.size) : Dec (rSlice r) (fun l => [.sl r.size (l.map f)]) := by
  refine ⟨fun _ => rfl, fun S w cs l h => ?_⟩
  cases h with | cons _ _ _ _ _ _ h t => cases t with | nil =>
  obtain ⟨vss, a, cap, hr, hl, hc, rfl⟩ := h.sl_inv
  rw [List.length_map] at hc ⊢
  refine ⟨a, cap, rfl, hc, fun k hk => ?_⟩
  obtain ⟨vs, h1, h2, h3⟩ := hr.get (i := k) (el := f l[k]) (by rw [List.getElem?_map, List.getElem?_eq_getElem hk]; rfl)
  have hlen := hl.1 vs (List.mem_of_getElem? h1)
  obtain ⟨u, hu⟩ : ∃ u, vs[0]? = some u := ⟨_, List.getElem?_eq_getElem (by omega)⟩
  obtain ⟨b, o, ha, _⟩ := hl.2 k vs 0 u h1 hu
  subst ha
  refine ⟨b, o, vs, rfl, hlen, fun j u hj => ?_, hf.2 _ _ _ _ h2⟩
  obtain ⟨b', o', he, _, hx⟩ := hl.2 k vs j u h1 hj
  cases he
  exact hx

/-- A table of known contracts. -/
abbrev ExtT := List (FuncId × (List AV → Option AV))
def extOf : ExtT → Ext
  | [], _ => none
  | (g, k) :: l, f => match Nat.beq g f with
    | true => some k
    | false => extOf l f
def SoundK (P : Program) (g : FuncId) (k : List AV → Option AV) : Prop := ∀ (args : List AV) (v : AV), k args = some v → ∀ (S : Nat → Nat → Prop) (w : World) (vs : List Value), (∀ b o, S b o → ∃ u, w.cell? ⟨b, o, none⟩ = some u) → Reps S w [] [] args vs →
  Calls P g vs.toArray w fun e w' => ∃ u S', e = .returned u ∧ Rep S' w' [] [] v u ∧ (∀ b o, S' b o → ∃ u, w'.cell? ⟨b, o, none⟩ = some u) ∧ SExt S w S' w' ∧ (∀ b o, S' b o → S b o ∨ w.heap.size ≤ b) ∧ Below w.heap.size w w'
theorem sound_extOf {P : Program} : ∀ {l : ExtT}, (∀ p ∈ l, SoundK P p.1 p.2) → SoundExt P (extOf l)
  | [], _ => fun g k h => by simp [extOf] at h
  | (g, k) :: l, hl => fun f k' h => by
    simp only [extOf] at h
    split at h
    · rename_i he
      have he := Nat.eq_of_beq_eq_true he
      cases h
      have := hl (g, k) (by simp)
      rw [← he]; exact this
    · exact sound_extOf (fun p hp => hl p (by simp [hp])) f k' h
/-- A function that tells of one thing a bool. -/
noncomputable def tellK {α : Type} (enc : α → AV) (f : α → Bool) (args : List AV) : Option AV := by
  classical
  exact if h : ∃ x, args = [enc x] then some (.bool (f h.choose)) else none
theorem tellK_eq {α : Type} {enc : α → AV} {f : α → Bool} (hi : ∀ x y, enc x = enc y → x = y) (x : α) : tellK enc f [enc x] = some (.bool (f x)) := by
  have h : ∃ y, [enc x] = [enc y] := ⟨x, rfl⟩
  unfold tellK
  rw [dif_pos h]
  exact congrArg (fun z => some (AV.bool (f z))) (hi _ _ (List.cons.inj h.choose_spec).1).symm
def BoolBelow' (b : Bool) (w : World) (e : Ending) (w' : World) : Prop := e = .returned (.bool b) ∧ Below w.heap.size w w'
theorem sound_tell {P : Program} {g : FuncId} {α : Type} {enc : α → AV} {f : α → Bool} {V : World → Value → α → Prop} (hd : ∀ S w v x, Rep S w [] [] (enc x) v → V w v x) (hc : ∀ x v w, V w v x → Calls P g #[v] w (BoolBelow' (f x) w)) : SoundK P g (tellK enc f) := by
  intro args v h S w vs hS hr
  unfold tellK at h
  split at h
  · rename_i hx
    cases h
    have := hx.choose_spec
    generalize hx.choose = x at *
    subst this
    cases hr with | cons _ _ _ u _ _ h1 t => cases t with | nil =>
    refine (hc x u w (hd _ _ _ _ h1)).mono ?_
    rintro e w' ⟨rfl, hb⟩
    obtain ⟨k1, k2⟩ := sext_below hS hb
    exact ⟨_, S, rfl, .bool _ _ _, k2, k1, fun _ _ h => .inl h, hb⟩
  · cases h
/-- A function of no arguments that yields true. -/
def trueK (args : List AV) : Option AV := match args with
  | [] => some (.bool true)
  | _ => none
theorem sound_true {P : Program} {g : FuncId} (hc : ∀ w, Calls P g #[] w (BoolBelow' true w)) : SoundK P g trueK := by
  intro args v h S w vs hS hr
  match args, h with
  | [], h =>
    cases h
    cases hr with | nil =>
    refine (hc w).mono ?_
    rintro e w' ⟨rfl, hb⟩
    obtain ⟨k1, k2⟩ := sext_below hS hb
    exact ⟨_, S, rfl, .bool _ _ _, k2, k1, fun _ _ h => .inl h, hb⟩
end Go.Proofs.Ytaocgmkcjemecaa
