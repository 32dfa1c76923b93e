/- The contracts that are known beside the interpreter, as models. Parts of the proofs of the laws. Conditions: none. -/
import Derived.Test.YtaocgmkcjemecaaSimP
import Derived.Test.YtaocgmkcjemecaaKnown
import Derived.Test.YtaocgmkcjemecaaLowE
import Derived.Test.YtaocgmkcjemecaaLowJ
import Derived.Test.YtaocgmkcjemecaaLowK
namespace Go.Proofs.Ytaocgmkcjemecaa
set_option linter.unusedVariables false
set_option maxRecDepth 100000
noncomputable def extT : ExtT := [
  (54, tellK aU rightU),
  (21, tellK aU rightU),
  (17, tellK aU lightU),
  (18, trueK),
  (30, trueK),
  (1000000, fun _ => none)]
noncomputable def XT : Ext := extOf extT
theorem sound_none {P : Program} {g : FuncId} : SoundK P g (fun _ => none) := by intro args v h; cases h
theorem extT_sound : ∀ p ∈ extT, SoundK Try.prog p.1 p.2 := by
  unfold extT
  refine List.forall_mem_cons.2 ⟨sound_tell dec_unitV (fun x v w h => (lowRight_any x v w h).mono fun _ _ h => h), ?_⟩
  refine List.forall_mem_cons.2 ⟨sound_tell dec_unitV (fun x v w h => (right07_any x v w h).mono fun _ _ h => h), ?_⟩
  refine List.forall_mem_cons.2 ⟨sound_tell dec_unitV (fun x v w h => (light07_any x v w h).mono fun _ _ h => h), ?_⟩
  refine List.forall_mem_cons.2 ⟨sound_true known22k_any, ?_⟩
  refine List.forall_mem_cons.2 ⟨sound_true known09_any, ?_⟩
  exact List.forall_mem_cons.2 ⟨sound_none, fun _ h => by cases h⟩
theorem XT_sound : SoundExt Try.prog XT := sound_extOf extT_sound
theorem callN_ext {P : Program} {H : Hints} {X : Ext} {n : Nat} {f : FuncId} {g : List AV → Option AV} {args : List AV} {v : AV} (hx : X f = some g) (h : g args = some v) : callN P H X (n + 1) f args [] = some (v, []) := by
  simp only [callN, callS, hx, h]

def m_lower_Right : Nat → UnitS → Option Bool
  | 0, _ => none
  | _+1, u => some (rightU u)
theorem ok_lower_Right (n : Nat) : ∀ (u : UnitS) (r : Bool), m_lower_Right n u = some r → callN Try.prog HH XT n 54 [AV.agg (cellsU (u))] [] = some (AV.bool (r), []) := by
  cases n with
  | zero => intro u r hm; cases hm
  | succ n => intro u r hm; obtain rfl := Option.some.inj hm; exact callN_ext rfl (tellK_eq (enc := aU) aU_inj u)
def m_ref07_Right : Nat → UnitS → Option Bool
  | 0, _ => none
  | _+1, u => some (rightU u)
theorem ok_ref07_Right (n : Nat) : ∀ (u : UnitS) (r : Bool), m_ref07_Right n u = some r → callN Try.prog HH XT n 21 [AV.agg (cellsU (u))] [] = some (AV.bool (r), []) := by
  cases n with
  | zero => intro u r hm; cases hm
  | succ n => intro u r hm; obtain rfl := Option.some.inj hm; exact callN_ext rfl (tellK_eq (enc := aU) aU_inj u)
def m_ref07_Light : Nat → UnitS → Option Bool
  | 0, _ => none
  | _+1, u => some (lightU u)
theorem ok_ref07_Light (n : Nat) : ∀ (u : UnitS) (r : Bool), m_ref07_Light n u = some r → callN Try.prog HH XT n 17 [AV.agg (cellsU (u))] [] = some (AV.bool (r), []) := by
  cases n with
  | zero => intro u r hm; cases hm
  | succ n => intro u r hm; obtain rfl := Option.some.inj hm; exact callN_ext rfl (tellK_eq (enc := aU) aU_inj u)
def m_law22_known : Nat → Option Bool
  | 0 => none
  | _+1 => some true
theorem ok_law22_known (n : Nat) : ∀ (r : Bool), m_law22_known n = some r → callN Try.prog HH XT n 18 [] [] = some (AV.bool (r), []) := by
  cases n with
  | zero => intro r hm; cases hm
  | succ n => intro r hm; obtain rfl := Option.some.inj hm; exact callN_ext rfl rfl
def m_law09_known : Nat → Option Bool
  | 0 => none
  | _+1 => some true
theorem ok_law09_known (n : Nat) : ∀ (r : Bool), m_law09_known n = some r → callN Try.prog HH XT n 30 [] [] = some (AV.bool (r), []) := by
  cases n with
  | zero => intro r hm; cases hm
  | succ n => intro r hm; obtain rfl := Option.some.inj hm; exact callN_ext rfl rfl
end Go.Proofs.Ytaocgmkcjemecaa
