/- The interpreter's steps one by one: for regions that draw their order. Parts of the proofs of the laws. Conditions: none. -/
import Derived.Test.YtaocgmkcjemecaaAbsP2
import Derived.Orders
import Derived.LoopN

section
namespace Go.Proofs.Ytaocgmkcjemecaa
open Go.RowKit
set_option linter.unusedVariables false
set_option linter.unusedSimpArgs false

section
variable {ρ : Type} {P : Program} {H : Hints} {call : CallT} {f : FuncId} {tm : Tm} {hp : Hp}

theorem bif_bind {α : Type} (c : Bool) (a b : Option α) (K : α → Option ρ) : (bif c then a else b).bind K = bif c then a.bind K else b.bind K := by cases c <;> rfl
theorem mkAgg_nat (b : Option Bool) (cs : List AV) (K : AV → Option ρ) : mkAgg b cs K = (mkAgg b cs some).bind K := by
  unfold mkAgg; split
  · rfl
  · split <;> rfl
  · rfl
theorem sub_nat (l : List AV) (off n : Nat) (C : List AV → Option AV) (K : AV → Option ρ) (C' : List AV → Option ρ) (h : ∀ l, C' l = (C l).bind K) : sub l off n C' = (sub l off n C).bind K := by
  unfold sub; rw [bif_bind, h]; rfl
theorem load_nat (t : TypeId) (a : AV) (K : AV → Option ρ) : load P hp t K a = (load P hp t some a).bind K := by
  cases a <;> simp only [load] <;> first | rfl | skip
  · split
    · exact sub_nat _ _ _ _ _ _ fun l => mkAgg_nat _ _ _
    · rfl
  · split
    · split
      · exact sub_nat _ _ _ _ _ _ fun l => mkAgg_nat _ _ _
      · rfl
    · rfl
  · exact sub_nat _ _ _ _ _ _ fun l => mkAgg_nat _ _ _
theorem binInt_nat (op : BinOp) (k : IntKind) (a b : Int) (K : AV → Option ρ) : binInt op k a b K = (binInt op k a b some).bind K := by
  cases op <;> simp only [binInt, bif_bind] <;> rfl
theorem eqs_nat (C : Bool → Option AV) (C' : Bool → Option ρ) (K : AV → Option ρ) (h : ∀ c, C' c = (C c).bind K) (fs : List Field) : ∀ (xs ys : List AV), eqs P C' fs xs ys = (eqs P C fs xs ys).bind K := by
  induction fs generalizing C C' with
  | nil => intro xs ys; cases xs <;> cases ys <;> simp only [eqs] <;> first | exact h _ | rfl
  | cons g fs ih =>
    intro xs ys
    cases xs <;> cases ys <;> simp only [eqs] <;> first | rfl | skip
    repeat' split
    all_goals first | rfl | exact ih _ _ (fun c => h _) _ _
theorem binop_nat (t : TypeId) (op : BinOp) (a b : AV) (K : AV → Option ρ) : binop P t op K a b = (binop P t op some a b).bind K := by
  cases a <;> cases b <;> simp only [binop] <;> first | rfl | skip
  all_goals (repeat' split)
  all_goals first | rfl | exact binInt_nat _ _ _ _ _ | (rw [bif_bind]; rfl) | (refine eqs_nat _ _ _ (fun c => ?_) _ _ _; rfl)
theorem alen_nat (C : Nat → Option AV) (C' : Nat → Option ρ) (K : AV → Option ρ) (h : ∀ n, C' n = (C n).bind K) (a : AV) : alen C' a = (alen C a).bind K := by
  cases a <;> simp only [alen] <;> first | exact h _ | rfl
theorem shiftP_nat (a : AV) (n : Nat) (K : AV → Option ρ) : shiftP K a n = (shiftP some a n).bind K := by cases a <;> rfl
theorem elemAt_nat (size n : Nat) (els : List (List AV)) (i : Int) (sz : Nat) (K : AV → Option ρ) : elemAt size n els i sz K = (elemAt size n els i sz some).bind K := by
  unfold elemAt; split
  · rw [bif_bind]; congr 1; split <;> rfl
  · rfl
theorem indexA_nat (t : TypeId) (x : AV) (i : Int) (K : AV → Option ρ) : indexA P hp t x i K = (indexA P hp t x i some).bind K := by
  unfold indexA; split
  · split
    · split
      · rw [bif_bind, shiftP_nat]; rfl
      · rfl
    · rfl
  · cases x <;> simp only <;> first | rfl | exact elemAt_nat _ _ _ _ _ _ | skip
    · split
      · exact elemAt_nat _ _ _ _ _ _
      · rfl
    · split
      · split
        · rw [bif_bind]; rfl
        · rfl
      · rfl
theorem bounds_nat (n : Nat) (lo hi : Option AV) (C : Nat → Nat → Option AV) (C' : Nat → Nat → Option ρ) (K : AV → Option ρ) (h : ∀ l m, C' l m = (C l m).bind K) : bounds n lo hi C' = (bounds n lo hi C).bind K := by
  unfold bounds
  repeat' split
  all_goals first | rfl | exact h _ _ | (rw [bif_bind, h]; rfl)
theorem cutS_nat (x : AV) (sz : Nat) (lo hi : Option AV) (K : AV → Option ρ) : cutS hp x sz lo hi K = (cutS hp x sz lo hi some).bind K := by
  unfold cutS
  repeat' split
  all_goals first | rfl | exact bounds_nat _ _ _ _ _ _ fun _ _ => rfl
theorem pure_nat (op : Op) (K : AV → Option ρ) : pureOp P tm hp op K = (pureOp P tm hp op some).bind K := by
  unfold pureOp
  split
  case h_4 => exact binop_nat _ _ _ _ _
  case h_12 => exact load_nat _ _ _
  all_goals (repeat' split)
  all_goals first
    | rfl
    | (rw [bif_bind]; first | rfl | (congr 1; split <;> rfl))
    | exact shiftP_nat _ _ _
    | exact sub_nat _ _ _ _ _ _ (fun l => mkAgg_nat _ _ _)
    | exact indexA_nat _ _ _ _
    | exact bounds_nat _ _ _ _ _ _ (fun _ _ => rfl)
    | exact cutS_nat _ _ _ _ _
    | (refine alen_nat _ _ _ (fun _ => ?_) _; rfl)

/-- A step by itself. -/
def stepD (P : Program) (H : Hints) (call : CallT) (f : FuncId) (o : Oper) (tm : Tm) (hp : Hp) : Option (AV × Hp) := stepV P H call f o tm hp fun v hp => some (v, hp)

theorem asOb_nat (t : TypeId) (b1 b2 : Bool) (v : AV) (K : AV → Hp → Option ρ) : asOb P t b1 b2 hp K v = (asOb P t b1 b2 hp (fun v hp => some (v, hp)) v).bind fun p => K p.1 p.2 := by
  unfold asOb
  simp only [forceHp_eq]
  repeat' split
  all_goals rfl
theorem step_nat (o : Oper) (K : AV → Hp → Option ρ) : stepV P H call f o tm hp K = (stepD P H call f o tm hp).bind fun p => K p.1 p.2 := by
  have pu : ∀ op : Op, pureOp P tm hp op (fun v => K v hp) = (pureOp P tm hp op fun v => some (v, hp)).bind fun p => K p.1 p.2 := fun op => by
    rw [pure_nat, pure_nat (K := fun v => some (v, hp))]
    cases pureOp P tm hp op some <;> rfl
  have po : ∀ (op : Op) (t : TypeId) (b1 b2 : Bool), pureOp P tm hp op (fun v => asOb P t b1 b2 hp K v) = (pureOp P tm hp op fun v => asOb P t b1 b2 hp (fun v hp => some (v, hp)) v).bind fun p => K p.1 p.2 := fun op t b1 b2 => by
    rw [pure_nat, pure_nat (K := fun v => asOb P t b1 b2 hp (fun v hp => some (v, hp)) v)]
    cases pureOp P tm hp op some with
    | none => rfl
    | some v => exact asOb_nat _ _ _ _ _
  unfold stepD stepV
  simp only [forceHp_eq]
  split
  case h_2 => exact po _ _ _ _
  case h_3 => exact po _ _ _ _
  all_goals (repeat' split)
  all_goals first
    | rfl
    | exact pu _
    | (rw [bif_bind]; rfl)
    | (rw [bif_bind, bif_bind]; rfl)

/-- A step with its guard. -/
def stepG (P : Program) (H : Hints) (call : CallT) (f : FuncId) (ops : List Oper) (o : Oper) (tm : Tm) (hp : Hp) : Option (Tm × Hp) := match o.guard with
  | none => (stepD P H call f o tm hp).map fun p => (put tm o.dst p.1, p.2)
  | some (j, want) => match (nth? ops j).bind (·.dst) with
    | none => none
    | some t => match nth .junk tm t with
      | .bool b => if b = want then (stepD P H call f o tm hp).map fun p => (put tm o.dst p.1, p.2) else some (put tm o.dst (.tup []), hp)
      | .tup [] => some (put tm o.dst (.tup []), hp)
      | _ => none

def seqD (P : Program) (H : Hints) (call : CallT) (f : FuncId) (ops : List Oper) : List Oper → Tm → Hp → Option (Tm × Hp)
  | [], tm, hp => some (tm, hp)
  | o :: l, tm, hp => (stepG P H call f ops o tm hp).bind fun p => seqD P H call f ops l p.1 p.2

theorem guard_eq (ops : List Oper) (o : Oper) (C : Tm → Hp → Option ρ) : (match o.guard with
      | none => stepV P H call f o tm hp fun v hp => putK tm o.dst v fun tm => C tm hp
      | some (j, want) => match (nth? ops j).bind (·.dst) with
        | none => none
        | some t => match nth .junk tm t with
          | .bool b => match want with
            | true => bif b then stepV P H call f o tm hp (fun v hp => putK tm o.dst v fun tm => C tm hp) else (putK tm o.dst (.tup []) fun tm => C tm hp)
            | false => bif b then (putK tm o.dst (.tup []) fun tm => C tm hp) else stepV P H call f o tm hp (fun v hp => putK tm o.dst v fun tm => C tm hp)
          | .tup [] => putK tm o.dst (.tup []) fun tm => C tm hp
          | _ => none) = (stepG P H call f ops o tm hp).bind fun p => C p.1 p.2 := by
  have yes : (stepV P H call f o tm hp fun v hp => putK tm o.dst v fun tm => C tm hp) = ((stepD P H call f o tm hp).map fun p => (put tm o.dst p.1, p.2)).bind fun p => C p.1 p.2 := by
    rw [step_nat]
    simp only [putK_eq]
    cases stepD P H call f o tm hp <;> rfl
  unfold stepG
  cases o.guard with
  | none => exact yes
  | some p =>
    obtain ⟨j, want⟩ := p
    simp only
    split
    · rfl
    · split
      · rename_i b _
        simp only [putK_eq] at yes
        cases want <;> cases b <;> simp only [cond_true, cond_false, putK_eq]
        · rw [if_pos trivial]; exact yes
        · rfl
        · rfl
        · rw [if_pos trivial]; exact yes
      · simp only [putK_eq]; rfl
      · rfl

theorem runOps_eq (ops : List Oper) : ∀ (l : List Oper) (tm : Tm) (hp : Hp) (K : Tm → Hp → Option ρ), runOps P H call f ops l tm hp K = (seqD P H call f ops l tm hp).bind fun p => K p.1 p.2
  | [], tm, hp, K => rfl
  | o :: l, tm, hp, K => by
    rw [runOps_cons]
    have := guard_eq (P := P) (H := H) (call := call) (f := f) (tm := tm) (hp := hp) ops o (fun tm hp => runOps P H call f ops l tm hp K)
    refine this.trans ?_
    rw [seqD]
    cases stepG P H call f ops o tm hp with
    | none => rfl
    | some p => exact runOps_eq ops l p.1 p.2 K
end

/-! ### Which steps may be exchanged -/
inductive Cls where
  | P | R | C | A | G | W
  deriving DecidableEq

def cls (H : Hints) (f : FuncId) (o : Oper) : Cls := match o.op with
  | .assign _ => match objAt H f o.dst with
    | true => .A
    | false => .P
  | .alloc _ | .box _ _ => .A
  | .load _ _ | .indexAddr _ _ _ => .R
  | .buildSlice _ _ _ => match objAt H f o.dst || arrAt H f o.dst with
    | true => .A
    | false => .C
  | .makeSlice _ _ _ => match objAt H f o.dst || arrAt H f o.dst with
    | true => .A
    | false => .P
  | .slice _ _ _ _ _ => .C
  | .call c => match c.callee with
    | .value (.func g) => match H.inl f g with
      | true => .W
      | false => match adoAt H f o.dst with
        | true => .A
        | false => .C
    | .builtin .append => .G
    | .builtin .len => .P
    | .builtin .min => .P
    | .builtin .max => .P
    | _ => .W
  | .move _ | .pick _ _ _ | .binOp _ _ _ _ _ | .unOp _ _ _ | .convert _ _ _ | .nilCheck _ | .build _ _ | .fieldAddr _ _ _ | .field _ _ _ | .index _ _ _ | .extract _ _ | .makeFunc _ _ _ => .P
  | _ => .W

def clsOk : Cls → Cls → Bool
  | .P, _ | _, .P => true
  | .R, .R | .R, .C | .C, .R | .C, .C | .R, .A | .C, .A | .R, .G => true
  | _, _ => false

/-- The objects that were there are there, and rows have grown at most. -/
def Grown (hp hp' : Hp) : Prop := ∀ id o, nth? hp id = some o → ∃ o', nth? hp' id = some o' ∧ (o' = o ∨ ∃ e size els more, o = .row e size els ∧ o' = .row e size (els ++ more))
def More (hp hp' : Hp) : Prop := ∀ id o, nth? hp id = some o → nth? hp' id = some o
theorem More.append (hp x : Hp) : More hp (hp ++ x) := fun id o h => by
  rw [nth?_eq] at h ⊢; rw [List.getElem?_append_left (nth?_lt h)]; exact h
theorem More.grown {hp hp' : Hp} (h : More hp hp') : Grown hp hp' := fun id o ho => ⟨o, h id o ho, .inl rfl⟩

section
variable {P : Program} {H : Hints} {call : CallT} {f : FuncId} {tm tm' : Tm} {hp hp' : Hp}

theorem bif_some {α : Type} {c : Bool} {a : Option α} {r : α} (h : (bif c then a else none) = some r) : c = true ∧ a = some r := by cases c <;> simp at h ⊢; exact h
theorem load_grown {t : TypeId} {a v : AV} (hg : Grown hp hp') (h : load P hp t some a = some v) : load P hp' t some a = some v := by
  cases a <;> simp only [load] at h ⊢ <;> first | exact h | skip
  case ptr id off =>
    cases ho : nth? hp id with
    | none => rw [ho] at h; cases h
    | some o =>
      obtain ⟨o', h1, h2⟩ := hg id o ho
      rw [ho] at h
      rcases h2 with rfl | ⟨e, size, els, more, rfl, rfl⟩
      · rw [h1]; exact h
      · cases h
  case pte id i off =>
    cases ho : nth? hp id with
    | none => rw [ho] at h; cases h
    | some o =>
      obtain ⟨o', h1, h2⟩ := hg id o ho
      rw [ho] at h
      rcases h2 with rfl | ⟨e, size, els, more, rfl, rfl⟩
      · rw [h1]; exact h
      · cases h
theorem elemAt_grown {size n : Nat} {els more : List (List AV)} {i : Int} {sz : Nat} {v : AV} (h : elemAt size n els i sz some = some v) : elemAt size n (els ++ more) i sz some = some v := by
  obtain ⟨el, ⟨h1, h2⟩, h3, h4, h5, h6⟩ := elemAt_some h
  subst h1
  cases h6
  have hlt := nth?_lt h5
  simp only [elemAt, h2, h3, h4, decide_true, Bool.and_self, cond_true, nth?_eq, List.getElem?_append_left hlt, h5]
theorem indexA_grown {t : TypeId} {x v : AV} {i : Int} (hg : Grown hp hp') (h : indexA P hp t x i some = some v) : indexA P hp' t x i some = some v := by
  unfold indexA at h ⊢
  cases he : elemOf P t with
  | none => rw [he] at h; exact h
  | some e =>
    rw [he] at h
    cases x <;> simp only at h ⊢ <;> first | exact h | skip
    case row id n =>
      cases ho : nth? hp id with
      | none => rw [ho] at h; cases h
      | some o =>
        obtain ⟨o', h1, h2⟩ := hg id o ho
        rw [ho] at h
        rcases h2 with rfl | ⟨e', size, els, more, rfl, rfl⟩
        · rw [h1]; exact h
        · rw [h1]; exact elemAt_grown h
    case own id off n =>
      cases ho : nth? hp id with
      | none => rw [ho] at h; cases h
      | some o =>
        obtain ⟨o', h1, h2⟩ := hg id o ho
        rw [ho] at h
        rcases h2 with rfl | ⟨e', size, els, more, rfl, rfl⟩
        · rw [h1]; exact h
        · cases h
theorem close1_more {a v : AV} (hg : More hp hp') (h : close1 hp a = some v) : close1 hp' a = some v := by
  cases a <;> simp only [close1] at h ⊢ <;> first | exact h | skip
  case row id n =>
    cases ho : nth? hp id with
    | none => rw [ho] at h; cases h
    | some o => rw [ho] at h; rw [hg id o ho]; exact h
  case func f a b => cases a <;> cases b <;> simp only [close1] at h ⊢ <;> first | exact h | (cases h; done)
theorem closeL_more (hg : More hp hp') : ∀ {l l' : List AV}, closeL hp l = some l' → closeL hp' l = some l'
  | [], l', h => h
  | a :: l, l', h => by
    simp only [closeL] at h ⊢
    cases h1 : close1 hp a with
    | none => rw [h1] at h; cases h
    | some a' =>
      cases h2 : closeL hp l with
      | none => rw [h1, h2] at h; cases h
      | some l2 => rw [h1, h2] at h; rw [close1_more hg h1, closeL_more hg h2]; exact h
theorem close_more {a v : AV} (hg : More hp hp') (h : close hp a = some v) : close hp' a = some v := by
  by_cases ha : ∃ cs, a = .agg cs
  · obtain ⟨cs, rfl⟩ := ha
    simp only [close] at h ⊢
    cases h3 : closeL hp cs with
    | none => rw [h3] at h; cases h
    | some cs' => rw [h3] at h; rw [closeL_more hg h3]; exact h
  · have e1 : ∀ hp : Hp, close hp a = close1 hp a := fun hp => by cases a <;> first | rfl | exact absurd ⟨_, rfl⟩ ha
    rw [e1] at h ⊢
    exact close1_more hg h
theorem closeArgs_more (hg : More hp hp') : ∀ {l l' : List AV}, closeArgs hp l = some l' → closeArgs hp' l = some l'
  | [], l', h => h
  | a :: l, l', h => by
    simp only [closeArgs] at h ⊢
    cases h1 : close hp a with
    | none => rw [h1] at h; cases h
    | some a' =>
      cases h2 : closeArgs hp l with
      | none => rw [h1, h2] at h; cases h
      | some l2 => rw [h1, h2] at h; rw [close_more hg h1, closeArgs_more hg h2]; exact h
theorem closeO1_more {a v : AV} (hg : More hp hp') (h : closeO1 hp a = some v) : closeO1 hp' a = some v := by
  by_cases ha : ∃ id off n, a = .own id off n
  · obtain ⟨id, off, n, rfl⟩ := ha
    simp only [closeO1] at h ⊢
    cases ho : nth? hp id with
    | none => rw [ho] at h; cases h
    | some o => rw [ho] at h; rw [hg id o ho]; exact h
  · have e1 : ∀ hp : Hp, closeO1 hp a = close1 hp a := fun hp => by cases a <;> first | rfl | exact absurd ⟨_, _, _, rfl⟩ ha
    rw [e1] at h ⊢
    exact close1_more hg h
theorem closeOL_more (hg : More hp hp') : ∀ {l l' : List AV}, closeOL hp l = some l' → closeOL hp' l = some l'
  | [], l', h => h
  | a :: l, l', h => by
    simp only [closeOL] at h ⊢
    cases h1 : closeO1 hp a with
    | none => rw [h1] at h; cases h
    | some a' =>
      cases h2 : closeOL hp l with
      | none => rw [h1, h2] at h; cases h
      | some l2 => rw [h1, h2] at h; rw [closeO1_more hg h1, closeOL_more hg h2]; exact h
theorem closeO_more {a v : AV} (hg : More hp hp') (h : closeO hp a = some v) : closeO hp' a = some v := by
  by_cases ha : ∃ cs, a = .agg cs
  · obtain ⟨cs, rfl⟩ := ha
    simp only [closeO] at h ⊢
    cases h3 : closeOL hp cs with
    | none => rw [h3] at h; cases h
    | some cs' => rw [h3] at h; rw [closeOL_more hg h3]; exact h
  · have e1 : ∀ hp : Hp, closeO hp a = closeO1 hp a := fun hp => by cases a <;> first | rfl | exact absurd ⟨_, rfl⟩ ha
    rw [e1] at h ⊢
    exact closeO1_more hg h
theorem closeOArgs_more (hg : More hp hp') : ∀ {l l' : List AV}, closeOArgs hp l = some l' → closeOArgs hp' l = some l'
  | [], l', h => h
  | a :: l, l', h => by
    simp only [closeOArgs] at h ⊢
    cases h1 : closeO hp a with
    | none => rw [h1] at h; cases h
    | some a' =>
      cases h2 : closeOArgs hp l with
      | none => rw [h1, h2] at h; cases h
      | some l2 => rw [h1, h2] at h; rw [closeO_more hg h1, closeOArgs_more hg h2]; exact h
theorem elems_more (hg : More hp hp') {size : Nat} {tys : List TypeId} : ∀ {ps : List (Nat × Operand)} {k : Nat} {els : List (List AV)}, elems P tys hp size tm k ps = some els → elems P tys hp' size tm k ps = some els
  | [], k, els, h => h
  | (i, x) :: rest, k, els, h => by
    simp only [elems] at h ⊢
    split at h
    · rename_i hc
      try rw [hc]
      try simp only
      cases h1 : closeL hp (norms P tys (ev tm x).cells) with
      | none => rw [h1] at h; cases h
      | some c =>
        cases h2 : elems P tys hp size tm (k + 1) rest with
        | none => rw [h1, h2] at h; cases h
        | some l => rw [h1, h2] at h; rw [closeL_more hg h1, elems_more hg h2]; exact h
    · cases h
theorem cutS_more {x v : AV} {sz : Nat} {lo hi : Option AV} (hg : More hp hp') (h : cutS hp x sz lo hi some = some v) : cutS hp' x sz lo hi some = some v := by
  cases x <;> simp only [cutS] at h ⊢ <;> first | exact h | skip
  case row id n =>
    cases ho : nth? hp id with
    | none => rw [ho] at h; cases h
    | some o => rw [ho] at h; rw [hg id o ho]; exact h
  case own id off n =>
    cases ho : nth? hp id with
    | none => rw [ho] at h; cases h
    | some o => rw [ho] at h; rw [hg id o ho]; exact h

theorem stepD_pure {o : Oper} {op : Op} (ho : o.op = op) (hst : ∀ hp, stepD P H call f o tm hp = pureOp P tm hp op fun v => some (v, hp)) {v : AV} {hp1 : Hp} (h : stepD P H call f o tm hp = some (v, hp1)) :
    hp1 = hp ∧ pureOp P tm hp op some = some v ∧ ∀ hp2, pureOp P tm hp2 op some = some v → stepD P H call f o tm hp2 = some (v, hp2) := by
  rw [hst, pure_nat] at h
  cases hv : pureOp P tm hp op some with
  | none => rw [hv] at h; cases h
  | some u =>
    rw [hv] at h
    cases h
    exact ⟨rfl, rfl, fun hp2 h2 => by rw [hst, pure_nat, h2]; rfl⟩

theorem step_P {o : Oper} (hc : cls H f o = .P) {v : AV} {hp1 : Hp} (h : stepD P H call f o tm hp = some (v, hp1)) : hp1 = hp ∧ ∀ hp2, stepD P H call f o tm hp2 = some (v, hp2) := by
  have fin : ∀ op : Op, o.op = op → (∀ hp, stepD P H call f o tm hp = pureOp P tm hp op fun v => some (v, hp)) → (∀ hp2, pureOp P tm hp op some = pureOp P tm hp2 op some) → hp1 = hp ∧ ∀ hp2, stepD P H call f o tm hp2 = some (v, hp2) := fun op ho hst hrfl => by
    obtain ⟨h1, h2, h3⟩ := stepD_pure ho hst h
    exact ⟨h1, fun hp2 => h3 hp2 (by rw [← hrfl hp2]; exact h2)⟩
  unfold cls at hc
  cases ho : o.op <;> rw [ho] at hc <;> simp only at hc <;> first | (cases hc; done) | skip
  case assign x =>
    have hob : objAt H f o.dst = false := by
      cases hob : objAt H f o.dst with
      | false => rfl
      | true => rw [hob] at hc; cases hc
    have hst : ∀ hp, stepD P H call f o tm hp = some (ev tm x, hp) := fun hp => by
      simp only [stepD, stepV, ho, hob]
      split
      · rename_i hx; rw [hx]
      · rfl
    rw [hst] at h; cases h
    exact ⟨rfl, fun hp2 => hst hp2⟩
  case call c =>
    obtain ⟨cal, args, ats⟩ := c
    cases cal with
    | value x => cases x <;> simp only at hc <;> first | (cases hc; done) | skip
                 repeat' split at hc
                 all_goals cases hc
    | invoke _ _ => cases hc
    | builtin b =>
      cases b <;> simp only at hc <;> first | (cases hc; done) | skip
      all_goals exact fin _ ho (fun hp => by simp only [stepD, stepV, ho]) (fun _ => rfl)
  case buildSlice t n ps => split at hc <;> cases hc
  case makeSlice t n c =>
    have hob : objAt H f o.dst = false ∧ arrAt H f o.dst = false := by
      cases h1 : objAt H f o.dst <;> cases h2 : arrAt H f o.dst <;> rw [h1, h2] at hc <;> first | (cases hc; done) | exact ⟨rfl, rfl⟩
    exact fin _ ho (fun hp => by simp only [stepD, stepV, ho, hob.1, hob.2, asOb]) (fun _ => rfl)
  case unOp u t x => cases u <;> exact fin _ ho (fun hp => by simp only [stepD, stepV, ho]) (fun _ => rfl)
  case makeFunc fn x y => cases fn <;> exact fin _ ho (fun hp => by simp only [stepD, stepV, ho]) (fun _ => rfl)
  all_goals exact fin _ ho (fun hp => by simp only [stepD, stepV, ho]) (fun _ => rfl)
theorem step_R {o : Oper} (hc : cls H f o = .R) {v : AV} {hp1 : Hp} (h : stepD P H call f o tm hp = some (v, hp1)) : hp1 = hp ∧ ∀ hp2, Grown hp hp2 → stepD P H call f o tm hp2 = some (v, hp2) := by
  have fin : ∀ op : Op, o.op = op → (∀ hp, stepD P H call f o tm hp = pureOp P tm hp op fun v => some (v, hp)) → (∀ hp2, Grown hp hp2 → pureOp P tm hp op some = some v → pureOp P tm hp2 op some = some v) → hp1 = hp ∧ ∀ hp2, Grown hp hp2 → stepD P H call f o tm hp2 = some (v, hp2) := fun op ho hst hrfl => by
    obtain ⟨h1, h2, h3⟩ := stepD_pure ho hst h
    exact ⟨h1, fun hp2 hg => h3 hp2 (hrfl hp2 hg h2)⟩
  unfold cls at hc
  cases ho : o.op <;> rw [ho] at hc <;> simp only at hc <;> first | (cases hc; done) | skip
  case assign x => split at hc <;> cases hc
  case buildSlice t n ps => split at hc <;> cases hc
  case makeSlice t n c => split at hc <;> cases hc
  case load t a => exact fin _ ho (fun hp => by simp only [stepD, stepV, ho]) (fun hp2 hg h => by simp only [pureOp] at h ⊢; exact load_grown hg h)
  case indexAddr t x y =>
    refine fin _ ho (fun hp => by simp only [stepD, stepV, ho]) (fun hp2 hg h => ?_)
    simp only [pureOp] at h ⊢
    cases hy : ev tm y <;> rw [hy] at h <;> simp only at h ⊢ <;> first | (cases h; done) | exact indexA_grown hg h
  case call c =>
    obtain ⟨cal, args, ats⟩ := c
    cases cal with
    | value x => cases x <;> simp only at hc <;> first | (cases hc; done) | skip
                 repeat' split at hc
                 all_goals cases hc
    | invoke _ _ => cases hc
    | builtin b => cases b <;> simp only at hc <;> cases hc
theorem step_C {o : Oper} (hc : cls H f o = .C) {v : AV} {hp1 : Hp} (h : stepD P H call f o tm hp = some (v, hp1)) : hp1 = hp ∧ ∀ hp2, More hp hp2 → stepD P H call f o tm hp2 = some (v, hp2) := by
  have fin : ∀ op : Op, o.op = op → (∀ hp, stepD P H call f o tm hp = pureOp P tm hp op fun v => some (v, hp)) → (∀ hp2, More hp hp2 → pureOp P tm hp op some = some v → pureOp P tm hp2 op some = some v) → hp1 = hp ∧ ∀ hp2, More hp hp2 → stepD P H call f o tm hp2 = some (v, hp2) := fun op ho hst hrfl => by
    obtain ⟨h1, h2, h3⟩ := stepD_pure ho hst h
    exact ⟨h1, fun hp2 hg => h3 hp2 (hrfl hp2 hg h2)⟩
  unfold cls at hc
  cases ho : o.op <;> rw [ho] at hc <;> simp only at hc <;> first | (cases hc; done) | skip
  case assign x => split at hc <;> cases hc
  case makeSlice t n c => split at hc <;> cases hc
  case buildSlice t n ps =>
    have hob : objAt H f o.dst = false ∧ arrAt H f o.dst = false := by
      cases h1 : objAt H f o.dst <;> cases h2 : arrAt H f o.dst <;> rw [h1, h2] at hc <;> first | (cases hc; done) | exact ⟨rfl, rfl⟩
    refine fin _ ho (fun hp => by simp only [stepD, stepV, ho, hob.1, hob.2, asOb]) (fun hp2 hg h => ?_)
    simp only [pureOp] at h ⊢
    repeat' split at h
    all_goals first | (cases h; done) | skip
    rename_i h1 _ h2 _ h3 _ h4 _ h5
    simp_all [elems_more hg h5]
  case slice t x lo hi mx =>
    refine fin _ ho (fun hp => by simp only [stepD, stepV, ho]) (fun hp2 hg h => ?_)
    cases mx with
    | some _ => simp only [pureOp] at h; cases h
    | none =>
      simp only [pureOp] at h ⊢
      cases hu : P.underlying t with
      | none => rw [hu] at h; cases h
      | some d =>
        rw [hu] at h
        cases d <;> simp only at h ⊢ <;> first | exact h | skip
        rename_i et
        cases hz : decide (0 < P.cellsOf et) with
        | false => rw [hz] at h; cases h
        | true => rw [hz] at h; exact cutS_more hg h
  case call c =>
    obtain ⟨cal, args, ats⟩ := c
    cases cal with
    | value x =>
      cases x <;> simp only at hc <;> first | (cases hc; done) | skip
      rename_i g
      cases hi : H.inl f g with
      | true => rw [hi] at hc; cases hc
      | false =>
        cases had : adoAt H f o.dst with
        | true => rw [hi] at hc; simp only [had] at hc; cases hc
        | false =>
        simp only [stepD, stepV, ho, ev, hi, had] at h ⊢
        cases hg : H.good.contains g with
        | false => rw [hg] at h; cases h
        | true =>
          rw [hg] at h
          simp only at h ⊢
          cases hown : anyOwn ([] ++ normArgs P ats.toList (args.toList.map (ev tm)) ++ []) with
          | false =>
            rw [hown] at h
            simp only at h ⊢
            cases ha : closeArgs hp ([] ++ normArgs P ats.toList (args.toList.map (ev tm)) ++ []) with
            | none => rw [ha] at h; cases h
            | some as =>
                rw [ha] at h
                simp only at h
                have key : ∀ r, call false g as [] = r → hp1 = hp ∧ ∀ hp2, More hp hp2 → (match closeArgs hp2 ([] ++ normArgs P ats.toList (args.toList.map (ev tm)) ++ []) with
                  | some as => match call false g as [] with
                    | some (v, []) => some (v, hp2)
                    | _ => none
                  | none => none) = some (v, hp2) := by
                  intro r hr
                  rw [hr] at h
                  match r, h with
                  | some (u, []), h =>
                    cases h
                    exact ⟨rfl, fun hp2 hm => by rw [closeArgs_more hm ha]; simp only [hr]⟩
                exact key _ rfl
          | true =>
            rw [hown] at h
            simp only at h ⊢
            cases ha : closeOArgs hp ([] ++ normArgs P ats.toList (args.toList.map (ev tm)) ++ []) with
            | none => rw [ha] at h; cases h
            | some as =>
                rw [ha] at h
                simp only at h
                have key : ∀ r, call false g as [] = r → hp1 = hp ∧ ∀ hp2, More hp hp2 → (match closeOArgs hp2 ([] ++ normArgs P ats.toList (args.toList.map (ev tm)) ++ []) with
                  | some as => match call false g as [] with
                    | some (v, []) => match flat v with
                      | true => some (v, hp2)
                      | false => none
                    | _ => none
                  | none => none) = some (v, hp2) := by
                  intro r hr
                  rw [hr] at h
                  match r, h with
                  | some (u, []), h =>
                    cases hfl : flat u with
                    | false => simp only [hfl] at h; cases h
                    | true =>
                      simp only [hfl] at h
                      cases h
                      exact ⟨rfl, fun hp2 hm => by rw [closeOArgs_more hm ha]; simp only [hr, hfl]⟩
                exact key _ rfl
    | invoke _ _ => cases hc
    | builtin b => cases b <;> simp only at hc <;> cases hc
theorem asOb_more {t : TypeId} {b1 b2 : Bool} {u v : AV} {hp1 : Hp} (h : asOb P t b1 b2 hp (fun v hp => some (v, hp)) u = some (v, hp1)) : More hp hp1 := by
  unfold asOb at h
  simp only [forceHp_eq] at h
  repeat' split at h
  all_goals first | (cases h; done) | (cases h; exact More.append _ _) | (cases h; exact fun _ _ h => h)
theorem step_A {o : Oper} (hc : cls H f o = .A) {v : AV} {hp1 : Hp} (h : stepD P H call f o tm hp = some (v, hp1)) : More hp hp1 := by
  unfold cls at hc
  cases ho : o.op <;> rw [ho] at hc <;> simp only at hc <;> first | (cases hc; done) | skip
  case assign x =>
    simp only [stepD, stepV, ho, forceHp_eq] at h
    repeat' split at h
    all_goals first | (cases h; done) | (cases h; exact More.append _ _) | (cases h; exact fun _ _ h => h)
  case alloc t =>
    simp only [stepD, stepV, ho, forceHp_eq] at h
    repeat' split at h
    all_goals first | (cases h; done) | (cases h; exact More.append _ _)
  case buildSlice t n ps =>
    simp only [stepD, stepV, ho] at h
    rw [pure_nat] at h
    cases hv : pureOp P tm hp (.buildSlice t n ps) some with
    | none => rw [hv] at h; cases h
    | some u => rw [hv] at h; exact asOb_more h
  case makeSlice t n c =>
    simp only [stepD, stepV, ho] at h
    rw [pure_nat] at h
    cases hv : pureOp P tm hp (.makeSlice t n c) some with
    | none => rw [hv] at h; cases h
    | some u => rw [hv] at h; exact asOb_more h
  case box t x =>
    simp only [stepD, stepV, ho, forceHp_eq] at h
    repeat' split at h
    all_goals first | (cases h; done) | (cases h; exact More.append _ _)
  case call c =>
    obtain ⟨cal, args, ats⟩ := c
    cases cal with
    | value x =>
      cases x <;> simp only at hc <;> first | (cases hc; done) | skip
      rename_i g
      cases hi : H.inl f g with
      | true => rw [hi] at hc; cases hc
      | false =>
        cases had : adoAt H f o.dst with
        | false => rw [hi] at hc; simp only [had] at hc; cases hc
        | true =>
          simp only [stepD, stepV, ho, ev, hi, had, forceHp_eq] at h
          repeat' split at h
          all_goals first | (cases h; done) | (cases h; exact More.append _ _)
    | invoke _ _ => cases hc
    | builtin b => cases b <;> simp only at hc <;> cases hc
theorem grown_set {id e' size e sz : Nat} {els news : List (List AV)} {c : Bool} {k v : AV} {hp1 : Hp} (hob : nth? hp id = some (.row e' size els)) (hq : (decide (e' = e) && decide (size = sz)) = true) (h : (bif c then some (k, setNth hp id (.row e sz (els ++ news))) else none) = some (v, hp1)) : Grown hp hp1 := by
  obtain ⟨_, h⟩ := bif_some h
  cases h
  simp only [Bool.and_eq_true, decide_eq_true_eq] at hq
  obtain ⟨rfl, rfl⟩ := hq
  intro id' o' ho'
  rw [nth?_eq] at ho' hob
  by_cases hid : id' = id
  · subst hid
    rw [hob] at ho'; cases ho'
    exact ⟨_, by rw [nth?_eq, setNth_eq, List.getElem?_set_self (nth?_lt hob)], .inr ⟨_, _, _, _, rfl, rfl⟩⟩
  · exact ⟨o', by rw [nth?_eq, setNth_eq, List.getElem?_set_ne (Ne.symm hid)]; exact ho', .inl rfl⟩
theorem grown_or {c : Bool} {k k' v : AV} {o : Ob} {hp1 : Hp} (h : (bif c then some (k, hp) else some (k', hp ++ [o])) = some (v, hp1)) : Grown hp hp1 := by
  cases c with
  | true => cases h; exact More.grown fun _ _ h => h
  | false => cases h; exact (More.append _ _).grown
theorem step_G {o : Oper} (hc : cls H f o = .G) {v : AV} {hp1 : Hp} (h : stepD P H call f o tm hp = some (v, hp1)) : Grown hp hp1 := by
  unfold cls at hc
  cases ho : o.op <;> rw [ho] at hc <;> simp only at hc <;> first | (cases hc; done) | skip
  case assign x => split at hc <;> cases hc
  case buildSlice t n ps => split at hc <;> cases hc
  case makeSlice t n c => split at hc <;> cases hc
  case call c =>
    obtain ⟨cal, args, ats⟩ := c
    cases cal with
    | value x => cases x <;> simp only at hc <;> first | (cases hc; done) | skip
                 repeat' split at hc
                 all_goals cases hc
    | invoke _ _ => cases hc
    | builtin b =>
      cases b <;> simp only at hc <;> first | (cases hc; done) | skip
      simp only [stepD, stepV, ho, forceHp_eq] at h
      repeat' split at h
      all_goals first | (cases h; done) | skip
      · obtain ⟨_, h⟩ := bif_some h
        cases h
        exact (More.append _ _).grown
      · obtain ⟨_, h⟩ := bif_some h
        exact grown_or h
      · exact grown_set (by assumption) (by assumption) h

theorem parts_congr {t : TypeId} : ∀ (ps : List (Nat × Operand)) (cs : List AV), (∀ x ∈ ps.map (·.2), ev tm x = ev tm' x) → parts P t tm cs ps = parts P t tm' cs ps
  | [], cs, h => rfl
  | (i, x) :: rest, cs, h => by
    have h1 := h x (by simp)
    have h2 := fun cs => parts_congr (t := t) rest cs fun y hy => h y (by simp only [List.map_cons, List.mem_cons]; exact .inr hy)
    simp only [parts, h1, h2]
theorem elems_congr {size : Nat} {tys : List TypeId} : ∀ (ps : List (Nat × Operand)) (k : Nat), (∀ x ∈ ps.map (·.2), ev tm x = ev tm' x) → elems P tys hp size tm k ps = elems P tys hp size tm' k ps
  | [], k, h => rfl
  | (i, x) :: rest, k, h => by
    have h1 := h x (by simp)
    have h2 := fun k => elems_congr (size := size) (tys := tys) rest k fun y hy => h y (by simp only [List.map_cons, List.mem_cons]; exact .inr hy)
    simp only [elems, h1, h2]
theorem pure_congr {op : Op} {ρ : Type} (K : AV → Option ρ) (h : ∀ x ∈ op.operands, ev tm x = ev tm' x) : pureOp P tm hp op K = pureOp P tm' hp op K := by
  cases op <;> simp only [Op.operands] at h
  case build t ps =>
    have := fun cs => parts_congr (P := P) (t := t) ps.toList cs (fun x hx => h x (by simpa using hx))
    simp only [pureOp, this]
  case buildSlice t n ps =>
    have := fun (tys : List TypeId) (size k : Nat) => elems_congr (P := P) (tys := tys) (hp := hp) (size := size) ps.toList k (fun x hx => h x (by simpa using hx))
    simp only [pureOp, this]
  case makeFunc fn a b =>
    have h1 : a.toList.map (ev tm) = a.toList.map (ev tm') := List.map_congr_left fun x hx => h x (by simp; exact .inl (by simpa using hx))
    have h2 : b.toList.map (ev tm) = b.toList.map (ev tm') := List.map_congr_left fun x hx => h x (by simp; exact .inr (by simpa using hx))
    cases fn <;> simp only [pureOp, h1, h2]
  case slice t x lo hi mx =>
    have hx := h x (by simp)
    have h1 : lo.map (ev tm) = lo.map (ev tm') := by cases lo with | none => rfl | some y => simp [h y (by simp)]
    have h2 : hi.map (ev tm) = hi.map (ev tm') := by cases hi with | none => rfl | some y => simp [h y (by simp)]
    cases mx <;> simp only [pureOp, hx, h1, h2]
  case unOp u t x => cases u <;> simp only [pureOp, h x (by simp)]
  case call c =>
    obtain ⟨cal, args, ats⟩ := c
    have ha : ∀ x ∈ args, ev tm x = ev tm' x := fun x hx => h x (by simp only [Call.operands]; exact Array.mem_append.2 (.inr hx))
    cases cal <;> simp only [pureOp]
    rename_i b
    cases b <;> simp only
    all_goals (obtain ⟨l⟩ := args)
    all_goals
      rcases l with _ | ⟨x, _ | ⟨y, _ | ⟨z, l⟩⟩⟩
    all_goals simp only
    all_goals first
      | rfl
      | (rw [ha x (by simp), ha y (by simp)]; done)
      | (rw [ha x (by simp)]; done)
  all_goals simp_all [pureOp]
theorem step_congr (o : Oper) (h : ∀ x ∈ o.op.operands, ev tm x = ev tm' x) : stepD P H call f o tm hp = stepD P H call f o tm' hp := by
  unfold stepD
  have hp0 := fun K : AV → Option (AV × Hp) => pure_congr (P := P) (hp := hp) K h
  cases ho : o.op <;> rw [ho] at h hp0 <;> simp only [Op.operands] at h <;> simp only [stepV, ho]
  case assign x => rw [h x (by simp)]
  case box t x => rw [h x (by simp)]
  case store t a x => rw [h a (by simp), h x (by simp)]
  case call c =>
    obtain ⟨cal, args, ats⟩ := c
    have ha : ∀ x ∈ args, ev tm x = ev tm' x := fun x hx => h x (by simp only [Call.operands]; exact Array.mem_append.2 (.inr hx))
    have hm : args.toList.map (ev tm) = args.toList.map (ev tm') := List.map_congr_left fun x hx => ha x (by simpa using hx)
    cases cal <;> simp only
    · rename_i fo
      rw [h fo (by simp [Call.operands]), hm]
    · exact hp0 _
    · rename_i b
      cases b <;> simp only
      case append =>
        obtain ⟨l⟩ := args
        rcases l with _ | ⟨x, _ | ⟨y, _ | ⟨z, l⟩⟩⟩ <;> simp only
        rw [ha x (by simp), ha y (by simp)]
      all_goals exact hp0 _
  all_goals first
    | rfl
    | exact hp0 _
end
end Go.Proofs.Ytaocgmkcjemecaa
end

/- The interpreter is sound: regions that draw their order. Parts of the proofs of the laws. Conditions: none. -/
section
namespace Go.Proofs.Ytaocgmkcjemecaa
open Go.RowKit
set_option linter.unusedVariables false
set_option linter.unusedSimpArgs false

/-- The slots that an operation looks at. -/
def looks (ops : List Oper) (o : Oper) : List Tmp :=
  (o.op.operands.toList.filterMap fun | .tmp t => some t | _ => none) ++ (match o.guard with
    | some (g, _) => ((nth? ops g).bind (·.dst)).toList
    | none => [])
def apartB (ops : List Oper) (x y : Oper) : Bool := match x.dst with
  | some d => !(looks ops y).contains d && y.dst != some d
  | none => true
/-- May the operation at j, behind no edge from the one at i, come up after it? -/
def swapOk (H : Hints) (f : FuncId) (ops : List Oper) (j i : Oper) : Bool := clsOk (cls H f j) (cls H f i) && apartB ops j i && apartB ops i j
def bindsOn (o : Oper) (j : Nat) : Bool := o.after.any fun e => e.on == j && Region.binds .any e
def pairsOk (H : Hints) (f : FuncId) (ops : List Oper) (i : Nat) (o : Oper) : Nat → List Oper → Bool
  | _, [] => true
  | j, p :: l => (bindsOn o j || decide (i ≤ j) || swapOk H f ops p o) && pairsOk H f ops i o (j + 1) l
def drawFrom (H : Hints) (f : FuncId) (ops : List Oper) : Nat → List Oper → Bool
  | _, [] => true
  | i, o :: l => (o.after.all fun e => !Region.binds .any e || decide (e.on < i)) && pairsOk H f ops i o 0 ops && drawFrom H f ops (i + 1) l
def drawOk (H : Hints) (f : FuncId) (ops : Array Oper) : Bool := drawFrom H f ops.toList 0 ops.toList
/-- The operations in another order, with their numbers. -/
def permN (ops : List Oper) : List Nat → List (Nat × Oper)
  | [] => []
  | i :: l => match nth? ops i with
    | some o => (i, o) :: permN ops l
    | none => permN ops l
/-- One that must have come up. -/
def anc (ops : List Oper) : Nat → Oper → Nat → Bool
  | 0, o, j => bindsOn o j
  | n + 1, o, j => bindsOn o j || o.after.toList.any fun e => Region.binds .any e && match nth? ops e.on with
    | some q => anc ops n q j
    | none => false
def pairB (H : Hints) (f : FuncId) (ops : List Oper) : List (Nat × Oper) → Bool
  | [] => true
  | p :: l => l.all (fun q => !(Nat.beq p.1 q.1) && !bindsOn p.2 q.1 && (swapOk H f ops p.2 q.2 || anc ops 4 q.2 p.1)) && pairB H f ops l
def orderOk (H : Hints) (f : FuncId) (ops : Array Oper) (ord : List Nat) : Bool :=
  decide ((permN ops.toList ord).length = ops.size) && (List.range ops.size).all (fun i => ord.contains i) && pairB H f ops.toList (permN ops.toList ord) && (permN ops.toList ord).all (fun p => !bindsOn p.2 p.1 && p.2.after.all fun e => !Region.binds .any e || decide (e.on < ops.size))
def regionOk (H : Hints) (f : FuncId) (id : Nat) (ops : Array Oper) (draw : Bool) : Bool := match H.order f id with
  | [] => !draw || drawOk H f ops
  | i :: l => draw && orderOk H f ops (i :: l)
theorem permN_map (ops : List Oper) : ∀ ord, (permN ops ord).map (·.2) = permL ops ord
  | [] => rfl
  | i :: l => by
    simp only [permN, permL]
    cases nth? ops i with
    | none => exact permN_map ops l
    | some o => simp only [List.map_cons, permN_map ops l]
theorem permN_mem (ops : List Oper) {i : Nat} {o : Oper} : ∀ ord, (i, o) ∈ permN ops ord → ops[i]? = some o
  | [], h => by cases h
  | k :: l, h => by
    simp only [permN] at h
    cases hk : nth? ops k with
    | none => rw [hk] at h; exact permN_mem ops l h
    | some q =>
      rw [hk] at h
      rcases List.mem_cons.1 h with e | h
      · cases e; rw [← nth?_eq]; exact hk
      · exact permN_mem ops l h
theorem mem_permN (ops : List Oper) {i : Nat} {o : Oper} (ho : ops[i]? = some o) : ∀ ord, i ∈ ord → (i, o) ∈ permN ops ord
  | [], h => by cases h
  | k :: l, h => by
    simp only [permN]
    rcases List.mem_cons.1 h with e | h
    · subst e
      rw [nth?_eq, ho]
      exact List.mem_cons_self
    · cases nth? ops k with
      | none => exact mem_permN ops ho l h
      | some q => exact List.mem_cons_of_mem _ (mem_permN ops ho l h)
theorem pairB_spec {H : Hints} {f : FuncId} {ops : List Oper} : ∀ {l : List (Nat × Oper)}, pairB H f ops l = true → l.Pairwise fun p q => p.1 ≠ q.1 ∧ bindsOn p.2 q.1 = false ∧ (swapOk H f ops p.2 q.2 = true ∨ anc ops 4 q.2 p.1 = true)
  | [], _ => List.Pairwise.nil
  | p :: l, h => by
    simp only [pairB, Bool.and_eq_true, List.all_eq_true] at h
    refine List.Pairwise.cons (fun q hq => ?_) (pairB_spec h.2)
    have := h.1 q hq
    simp only [Bool.and_eq_true, Bool.not_eq_true', Bool.or_eq_true] at this
    obtain ⟨⟨a, b⟩, c⟩ := this
    exact ⟨fun e => (by rw [e, Nat.beq_refl] at a; cases a), b, c⟩

section
variable {P : Program} {H : Hints} {call : CallT} {f : FuncId} {tm tm' : Tm} {hp hp' : Hp} {ops : List Oper}

theorem nth_set_ne {α : Type} (d : α) (l : List α) {i j : Nat} (v : α) (h : i ≠ j) : nth d (l.set i v) j = nth d l j := by
  rw [nth_eq, nth_eq, List.getElem?_set_ne h]
theorem ev_put {x : Operand} {d : Option Tmp} {v : AV} (h : ∀ t, d = some t → x ≠ .tmp t) : ev (put tm d v) x = ev tm x := by
  cases d with
  | none => rfl
  | some t =>
    cases x with
    | tmp s =>
      have : t ≠ s := fun e => h t rfl (by rw [e])
      simp only [ev, put, setNth_eq]
      exact nth_set_ne _ _ _ this
    | _ => rfl
theorem put_comm {d d' : Option Tmp} {v v' : AV} (h : ∀ t, d = some t → d' ≠ some t) : put (put tm d v) d' v' = put (put tm d' v') d v := by
  cases d with
  | none => rfl
  | some t => cases d' with
    | none => rfl
    | some t' =>
      simp only [put, setNth_eq]
      exact List.set_comm _ _ (fun e => h t rfl (by rw [e]))

theorem apart_of {x y : Oper} (h : apartB ops x y = true) : ∀ t, x.dst = some t → t ∉ looks ops y ∧ y.dst ≠ some t := by
  intro t ht
  simp only [apartB, ht, Bool.and_eq_true, Bool.not_eq_true', bne_iff_ne, ne_eq] at h
  refine ⟨fun hm => ?_, h.2⟩
  have := h.1
  simp at this
  exact this hm

/-- A step looks at its slots alone. -/
theorem stepG_congr (o : Oper) (h : ∀ t ∈ looks ops o, nth .junk tm t = nth .junk tm' t) {tm1 : Tm} {hp1 : Hp} (hs : stepG P H call f ops o tm hp = some (tm1, hp1)) : ∃ v, tm1 = put tm o.dst v ∧ stepG P H call f ops o tm' hp = some (put tm' o.dst v, hp1) := by
  have hop : ∀ x ∈ o.op.operands, ev tm x = ev tm' x := by
    intro x hx
    cases x with
    | tmp t => exact h t (List.mem_append_left _ (List.mem_filterMap.2 ⟨.tmp t, by simpa using hx, rfl⟩))
    | _ => rfl
  have hd : stepD P H call f o tm' hp = stepD P H call f o tm hp := (step_congr o hop).symm
  have yes : (stepD P H call f o tm hp).map (fun p => (put tm o.dst p.1, p.2)) = some (tm1, hp1) → ∃ v, tm1 = put tm o.dst v ∧ (stepD P H call f o tm' hp).map (fun p => (put tm' o.dst p.1, p.2)) = some (put tm' o.dst v, hp1) := by
    intro hs
    rw [hd]
    cases hq : stepD P H call f o tm hp with
    | none => rw [hq] at hs; cases hs
    | some p => rw [hq] at hs; cases hs; exact ⟨p.1, rfl, rfl⟩
  unfold stepG at hs ⊢
  cases hg : o.guard with
  | none => rw [hg] at hs; exact yes hs
  | some q =>
    obtain ⟨j, want⟩ := q
    rw [hg] at hs
    simp only at hs ⊢
    cases hj : (nth? ops j).bind (·.dst) with
    | none => rw [hj] at hs; cases hs
    | some t =>
      rw [hj] at hs
      simp only at hs ⊢
      have ht : nth .junk tm t = nth .junk tm' t := h t (List.mem_append_right _ (by simp [hg, hj]))
      rw [← ht]
      cases hb : nth .junk tm t <;> rw [hb] at hs <;> first | (cases hs; done) | skip
      case tup l =>
        cases l with
        | cons _ _ => cases hs
        | nil => cases hs; exact ⟨_, rfl, rfl⟩
      simp only at hs ⊢
      rename_i b
      by_cases hw : b = want
      · rw [if_pos hw] at hs ⊢; exact yes hs
      · rw [if_neg hw] at hs ⊢; cases hs; exact ⟨_, rfl, rfl⟩
theorem stepG_put (o : Oper) {tm1 : Tm} {hp1 : Hp} (hs : stepG P H call f ops o tm hp = some (tm1, hp1)) : ∃ v, tm1 = put tm o.dst v := by
  obtain ⟨v, h, _⟩ := stepG_congr (tm' := tm) o (fun _ _ => rfl) hs
  exact ⟨v, h⟩

/-- What a step does to the objects, by its class. -/
theorem stepG_hp (o : Oper) {Q : Hp → Hp → Prop} (hq : ∀ v hp1, stepD P H call f o tm hp = some (v, hp1) → Q hp hp1) (hr : Q hp hp) {tm1 : Tm} {hp1 : Hp} (hs : stepG P H call f ops o tm hp = some (tm1, hp1)) : Q hp hp1 := by
  have yes : (stepD P H call f o tm hp).map (fun p => (put tm o.dst p.1, p.2)) = some (tm1, hp1) → Q hp hp1 := by
    intro hs
    cases hd : stepD P H call f o tm hp with
    | none => rw [hd] at hs; cases hs
    | some p => rw [hd] at hs; cases hs; exact hq _ _ hd
  unfold stepG at hs
  repeat' split at hs
  all_goals first | (cases hs; done) | exact yes hs | (cases hs; exact hr)
/-- A step that does not mind what becomes of the objects. -/
theorem stepG_move (o : Oper) {R : Hp → Hp → Prop} (hq : ∀ v hp1, stepD P H call f o tm hp = some (v, hp1) → hp1 = hp ∧ ∀ hp2, R hp hp2 → stepD P H call f o tm hp2 = some (v, hp2)) {tm1 : Tm} {hp1 : Hp} (hs : stepG P H call f ops o tm hp = some (tm1, hp1)) : hp1 = hp ∧ ∀ hp2, R hp hp2 → stepG P H call f ops o tm hp2 = some (tm1, hp2) := by
  have yes : (stepD P H call f o tm hp).map (fun p => (put tm o.dst p.1, p.2)) = some (tm1, hp1) → hp1 = hp ∧ ∀ hp2, R hp hp2 → (stepD P H call f o tm hp2).map (fun p => (put tm o.dst p.1, p.2)) = some (tm1, hp2) := by
    intro hs
    cases hd : stepD P H call f o tm hp with
    | none => rw [hd] at hs; cases hs
    | some p =>
      rw [hd] at hs; cases hs
      obtain ⟨h1, h2⟩ := hq _ _ hd
      exact ⟨h1, fun hp2 hr => by rw [h2 hp2 hr]; rfl⟩
  unfold stepG at hs ⊢
  split at hs
  · exact yes hs
  · split at hs
    · cases hs
    · split at hs
      · split at hs
        · rename_i hw; simp only [hw, if_true]; exact yes hs
        · rename_i hw; cases hs; exact ⟨rfl, fun _ _ => by simp only [hw, if_false]⟩
      · cases hs; exact ⟨rfl, fun _ _ => rfl⟩
      · cases hs

/-- Two neighbours change places. -/
theorem swap {j i : Oper} (hok : swapOk H f ops j i = true) {tm1 tm2 : Tm} {hp1 hp2 : Hp} (h1 : stepG P H call f ops j tm hp = some (tm1, hp1)) (h2 : stepG P H call f ops i tm1 hp1 = some (tm2, hp2)) :
    ∃ tmi hpi, stepG P H call f ops i tm hp = some (tmi, hpi) ∧ stepG P H call f ops j tmi hpi = some (tm2, hp2) := by
  simp only [swapOk, Bool.and_eq_true] at hok
  obtain ⟨⟨hc, ha⟩, hb⟩ := hok
  have aj := apart_of ha
  have ai := apart_of hb
  obtain ⟨vj, rfl⟩ := stepG_put j h1
  obtain ⟨vi, rfl⟩ := stepG_put i h2
  have look : ∀ (o o' : Oper) (tm : Tm) (v : AV), (∀ t, o.dst = some t → t ∉ looks ops o' ∧ o'.dst ≠ some t) → ∀ t ∈ looks ops o', nth .junk (put tm o.dst v) t = nth .junk tm t := by
    intro o o' tm v h t ht
    cases hd : o.dst with
    | none => rfl
    | some d =>
      have : d ≠ t := fun e => (h d hd).1 (e ▸ ht)
      simp only [put, setNth_eq]
      exact nth_set_ne _ _ _ this
  have comm : put (put tm j.dst vj) i.dst vi = put (put tm i.dst vi) j.dst vj := put_comm fun t ht => (aj t ht).2
  have hi : ∃ v, put (put tm j.dst vj) i.dst vi = put (put tm j.dst vj) i.dst v ∧ stepG P H call f ops i tm hp1 = some (put tm i.dst v, hp2) := stepG_congr i (look j i tm vj aj) h2
  obtain ⟨v, e1, hi⟩ := hi
  have fin : ∀ hpi, stepG P H call f ops i tm hp = some (put tm i.dst v, hpi) → stepG P H call f ops j tm hpi = some (put tm j.dst vj, hp2) → ∃ tmi hpi, stepG P H call f ops i tm hp = some (tmi, hpi) ∧ stepG P H call f ops j tmi hpi = some (put (put tm j.dst vj) i.dst vi, hp2) := by
    intro hpi g1 g2
    obtain ⟨v', e2, g3⟩ := stepG_congr (tm' := put tm i.dst v) j (fun t ht => (look i j tm v ai t ht).symm) g2
    refine ⟨_, _, g1, ?_⟩
    rw [g3, e1, e2]
    congr 2
    exact put_comm fun t ht => (ai t ht).2
  -- the earlier one does not mind what becomes of the objects
  have early : ∀ R : Hp → Hp → Prop, (∀ v hp1, stepD P H call f j tm hp = some (v, hp1) → hp1 = hp ∧ ∀ hp2, R hp hp2 → stepD P H call f j tm hp2 = some (v, hp2)) → (hp1 = hp → R hp hp2) → ∃ tmi hpi, stepG P H call f ops i tm hp = some (tmi, hpi) ∧ stepG P H call f ops j tmi hpi = some (put (put tm j.dst vj) i.dst vi, hp2) := by
    intro R hR hr
    obtain ⟨e, g⟩ := stepG_move j hR h1
    subst e
    exact fin hp2 hi (g hp2 (hr rfl))
  have late : cls H f i = .P → ∃ tmi hpi, stepG P H call f ops i tm hp = some (tmi, hpi) ∧ stepG P H call f ops j tmi hpi = some (put (put tm j.dst vj) i.dst vi, hp2) := by
    intro hci
    have := stepG_move (R := fun _ _ => True) i (fun v hpx h => let ⟨a, b⟩ := step_P hci h; ⟨a, fun hp2 _ => b hp2⟩) hi
    obtain ⟨e, g⟩ := this
    subst e
    exact fin hp (g hp trivial) h1
  have same : ∀ {R : Hp → Hp → Prop}, (∀ v hpx, stepD P H call f i tm hp1 = some (v, hpx) → hpx = hp1 ∧ ∀ hp2, R hp1 hp2 → stepD P H call f i tm hp2 = some (v, hp2)) → hp2 = hp1 := fun hR => (stepG_move i hR hi).1
  have grown : (∀ v hpx, stepD P H call f i tm hp1 = some (v, hpx) → More hp1 hpx) → More hp1 hp2 := fun h => stepG_hp i h (fun _ _ h => h) hi
  have grown' : (∀ v hpx, stepD P H call f i tm hp1 = some (v, hpx) → Grown hp1 hpx) → Grown hp1 hp2 := fun h => stepG_hp i h (fun id o h => ⟨o, h, .inl rfl⟩) hi
  have sameP : cls H f i = .P → hp2 = hp1 := fun hci => same (R := fun _ _ => True) fun v hpx h => let ⟨a, b⟩ := step_P hci h; ⟨a, fun hp2 _ => b hp2⟩
  have sameR : cls H f i = .R → hp2 = hp1 := fun hci => same fun v hpx h => step_R hci h
  have sameC : cls H f i = .C → hp2 = hp1 := fun hci => same fun v hpx h => step_C hci h
  cases hcj : cls H f j <;> cases hci : cls H f i <;> rw [hcj, hci] at hc <;> first | (cases hc; done) | exact late hci | skip
  case P.R | P.C | P.A | P.G | P.W => exact early (fun _ _ => True) (fun v hpx h => let ⟨a, b⟩ := step_P hcj h; ⟨a, fun hp2 _ => b hp2⟩) (fun _ => trivial)
  case R.R => exact early Grown (fun v hpx h => step_R hcj h) (fun e => by rw [← e, sameR hci]; exact fun id o h => ⟨o, h, .inl rfl⟩)
  case R.C => exact early Grown (fun v hpx h => step_R hcj h) (fun e => by rw [← e, sameC hci]; exact fun id o h => ⟨o, h, .inl rfl⟩)
  case R.A => exact early Grown (fun v hpx h => step_R hcj h) (fun e => by rw [← e]; exact (grown fun v hpx h => step_A hci h).grown)
  case R.G => exact early Grown (fun v hpx h => step_R hcj h) (fun e => by rw [← e]; exact grown' fun v hpx h => step_G hci h)
  case C.R => exact early More (fun v hpx h => step_C hcj h) (fun e => by rw [← e, sameR hci]; exact fun id o h => h)
  case C.C => exact early More (fun v hpx h => step_C hcj h) (fun e => by rw [← e, sameC hci]; exact fun id o h => h)
  case C.A => exact early More (fun v hpx h => step_C hcj h) (fun e => by rw [← e]; exact grown fun v hpx h => step_A hci h)

/-- A step that may come up now may be taken first. -/
theorem seq_front (i : Oper) (post : List Oper) : ∀ (pre : List Oper) (tm : Tm) (hp : Hp), (∀ j ∈ pre, swapOk H f ops j i = true) → ∀ {r : Tm × Hp}, seqD P H call f ops (pre ++ i :: post) tm hp = some r →
    ∃ tm1 hp1, stepG P H call f ops i tm hp = some (tm1, hp1) ∧ seqD P H call f ops (pre ++ post) tm1 hp1 = some r
  | [], tm, hp, _, r, h => by
    rw [List.nil_append, seqD] at h
    cases hi : stepG P H call f ops i tm hp with
    | none => rw [hi] at h; cases h
    | some p => rw [hi] at h; exact ⟨p.1, p.2, rfl, h⟩
  | j :: pre, tm, hp, hok, r, h => by
    rw [List.cons_append, seqD] at h
    cases hj : stepG P H call f ops j tm hp with
    | none => rw [hj] at h; cases h
    | some p =>
      rw [hj] at h
      obtain ⟨tm1, hp1, h1, h2⟩ := seq_front i post pre p.1 p.2 (fun k hk => hok k (List.mem_cons_of_mem _ hk)) h
      obtain ⟨tmi, hpi, g1, g2⟩ := swap (hok j List.mem_cons_self) (tm1 := p.1) (hp1 := p.2) hj h1
      refine ⟨tmi, hpi, g1, ?_⟩
      rw [List.cons_append, seqD, g2]
      exact h2
end

/-- What has not come up yet. -/
def remFrom (listed : Array Bool) : Nat → List Oper → List Oper
  | _, [] => []
  | k, o :: l => if listed.getD k true = true then remFrom listed (k + 1) l else o :: remFrom listed (k + 1) l

theorem rem_past (listed : Array Bool) (i : Nat) : ∀ (l : List Oper) (k : Nat), i < k → remFrom (listed.setIfInBounds i true) k l = remFrom listed k l
  | [], _, _ => rfl
  | o :: l, k, h => by
    have : (listed.setIfInBounds i true).getD k true = listed.getD k true := getD_set_ne true (by omega)
    simp only [remFrom, this, rem_past listed i l (k + 1) (by omega)]
theorem rem_split (listed : Array Bool) {i : Nat} {o : Oper} (hun : listed.getD i true = false) : ∀ (l : List Oper) (k : Nat), k ≤ i → l[i - k]? = some o →
    ∃ pre post, remFrom listed k l = pre ++ o :: post ∧ remFrom (listed.setIfInBounds i true) k l = pre ++ post ∧ ∀ p ∈ pre, ∃ j, k ≤ j ∧ j < i ∧ l[j - k]? = some p ∧ listed.getD j true = false
  | [], k, hk, h => by simp at h
  | q :: l, k, hk, h => by
    rcases Nat.lt_or_ge k i with hlt | hge
    · have h' : l[i - (k + 1)]? = some o := by
        rw [show i - k = (i - (k + 1)) + 1 by omega] at h
        simpa using h
      obtain ⟨pre, post, e1, e2, e3⟩ := rem_split listed hun l (k + 1) (by omega) h'
      have hkk : (listed.setIfInBounds i true).getD k true = listed.getD k true := getD_set_ne true (by omega)
      have e3' : ∀ p ∈ pre, ∃ j, k ≤ j ∧ j < i ∧ (q :: l)[j - k]? = some p ∧ listed.getD j true = false := fun p hp => by
        obtain ⟨j, j1, j2, j3, j4⟩ := e3 p hp
        refine ⟨j, by omega, j2, ?_, j4⟩
        rw [show j - k = (j - (k + 1)) + 1 by omega]
        simpa using j3
      by_cases hl : listed.getD k true = true
      · refine ⟨pre, post, ?_, ?_, e3'⟩
        · simp only [remFrom, hl, if_true, e1]
        · simp only [remFrom, hkk, hl, if_true, e2]
      · have hl' : listed.getD k true = false := by simpa using hl
        refine ⟨q :: pre, post, ?_, ?_, fun p hp => ?_⟩
        · simp only [remFrom, hl', Bool.false_eq_true, if_false, e1, List.cons_append]
        · simp only [remFrom, hkk, hl', Bool.false_eq_true, if_false, e2, List.cons_append]
        · rcases List.mem_cons.1 hp with rfl | hp
          · exact ⟨k, Nat.le_refl _, hlt, by simp, by simpa using hl⟩
          · exact e3' p hp
    · have : k = i := by omega
      subst this
      simp at h; subst h
      refine ⟨[], remFrom listed (k + 1) l, ?_, ?_, fun p hp => by simp at hp⟩
      · simp only [remFrom, hun, Bool.false_eq_true, if_false, List.nil_append]
      · have hs : (listed.setIfInBounds k true).getD k true = true := by
          rcases Nat.lt_or_ge k listed.size with h | h
          · simp [h]
          · simp [Array.getElem?_eq_none h] at hun
        simp only [remFrom, hs, if_true, List.nil_append]
        exact rem_past listed k l (k + 1) (by omega)
/-- The first one that has not come up. -/
theorem rem_first (listed : Array Bool) : ∀ (l : List Oper) (k : Nat), remFrom listed k l ≠ [] → ∃ i o, k ≤ i ∧ l[i - k]? = some o ∧ listed.getD i true = false ∧ ∀ j, k ≤ j → j < i → listed.getD j true = true
  | [], k, h => absurd rfl h
  | q :: l, k, h => by
    by_cases hl : listed.getD k true = true
    · simp only [remFrom, hl, if_true] at h
      obtain ⟨i, o, h1, h2, h3, h4⟩ := rem_first listed l (k + 1) h
      refine ⟨i, o, by omega, ?_, h3, fun j hj1 hj2 => ?_⟩
      · rw [show i - k = (i - (k + 1)) + 1 by omega]; simpa using h2
      · rcases Nat.eq_or_lt_of_le hj1 with e | e
        · subst e; exact hl
        · exact h4 j (by omega) hj2
    · exact ⟨k, q, Nat.le_refl _, by simp, by simpa using hl, fun j h1 h2 => by omega⟩
theorem rem_all (n : Nat) : ∀ (l : List Oper) (k : Nat), k + l.length = n → remFrom (Array.replicate n false) k l = l
  | [], _, _ => rfl
  | o :: l, k, h => by
    simp only [List.length_cons] at h
    have : (Array.replicate n false).getD k true = false := by simp [show k < n by omega]
    simp only [remFrom, this, Bool.false_eq_true, if_false, rem_all n l (k + 1) (by omega)]

theorem pairs_spec {H : Hints} {f : FuncId} {ops : List Oper} {i : Nat} {o : Oper} : ∀ (l : List Oper) (k : Nat), pairsOk H f ops i o k l = true → ∀ j p, k ≤ j → l[j - k]? = some p → bindsOn o j = true ∨ i ≤ j ∨ swapOk H f ops p o = true
  | [], k, _, j, p, _, h => by simp at h
  | q :: l, k, hp, j, p, hk, h => by
    simp only [pairsOk, Bool.and_eq_true, Bool.or_eq_true, decide_eq_true_eq] at hp
    rcases Nat.eq_or_lt_of_le hk with e | e
    · subst e
      simp at h; subst h
      rcases hp.1 with (h | h) | h
      · exact .inl h
      · exact .inr (.inl h)
      · exact .inr (.inr h)
    · refine pairs_spec l (k + 1) hp.2 j p (by omega) ?_
      rw [show j - k = (j - (k + 1)) + 1 by omega] at h
      simpa using h
theorem draw_spec {H : Hints} {f : FuncId} {ops : List Oper} : ∀ (l : List Oper) (k : Nat), drawFrom H f ops k l = true → ∀ i o, k ≤ i → l[i - k]? = some o → (∀ e ∈ o.after, Region.binds .any e = true → e.on < i) ∧ pairsOk H f ops i o 0 ops = true
  | [], k, _, i, o, _, h => by simp at h
  | q :: l, k, hp, i, o, hk, h => by
    simp only [drawFrom, Bool.and_eq_true] at hp
    rcases Nat.eq_or_lt_of_le hk with e | e
    · subst e
      simp at h; subst h
      refine ⟨fun e he hb => ?_, hp.1.2⟩
      have := hp.1.1
      rw [Array.all_eq_true_iff_forall_mem] at this
      have := this e he
      simpa [hb] using this
    · refine draw_spec l (k + 1) hp.2 i o (by omega) ?_
      rw [show i - k = (i - (k + 1)) + 1 by omega] at h
      simpa using h

section
variable {P : Program} {H : Hints} {call : CallT} {f : FuncId} {base : Nat} {ops : Array Oper}

theorem any_sound (hH : GoodH P H) (hc : SoundCall P H call) (hd : drawOk H f ops = true) {Q : Exit → Act → World → Prop} {fin : Tm × Hp} : ∀ (fuel : Nat) (listed : Array Bool) (S : Nat → Nat → Prop) (w : World) (tm : Tm) (hp : Hp) (φ : List Pl) (a : Act), (remFrom listed 0 ops.toList).length = fuel → listed.size = ops.size → Sim P base S w hp φ → Reps S w hp φ tm a.tmps.toList →
    seqD P H call f ops.toList (remFrom listed 0 ops.toList) tm hp = some fin →
    (∀ S' φ' a' w', Reps S' w' fin.2 φ' fin.1 a'.tmps.toList → Sim P base S' w' fin.2 φ' → Trans base S w hp φ S' w' fin.2 φ' → a'.defers = a.defers → Q .normal a' w') → wpAny P .any ops Q fuel listed a w := by
  intro fuel
  induction fuel with
  | zero =>
    intro listed S w tm hp φ a hf hl hs ht h hn
    have hrem := List.eq_nil_of_length_eq_zero hf
    rw [hrem] at h
    cases h
    refine ⟨?_, hn S φ a w ht hs (.refl _ _ _ _ _) rfl⟩
    cases hr : Region.ready .any ops listed with
    | nil => rfl
    | cons i t =>
      have hi : i ∈ Region.ready .any ops listed := by rw [hr]; exact List.mem_cons_self
      obtain ⟨hun, o, ho, _⟩ := mem_ready.1 hi
      obtain ⟨pre, post, e1, _⟩ := rem_split listed hun ops.toList 0 (Nat.zero_le _) (by simpa using ho)
      rw [hrem] at e1
      simp at e1
  | succ fuel ih =>
    intro listed S w tm hp φ a hf hl hs ht h hn
    refine ⟨fun hr => ?_, fun i hi => ?_⟩
    · exfalso
      obtain ⟨i, o, h1, h2, h3, h4⟩ := rem_first listed ops.toList 0 (fun e => by rw [e] at hf; simp at hf)
      have hspec := (draw_spec ops.toList 0 hd i o h1 h2).1
      have : i ∈ Region.ready .any ops listed := mem_ready.2 ⟨h3, o, by simpa using h2, fun e he hb => by
        have hlt := hspec e he hb
        have hh := h4 e.on (Nat.zero_le _) hlt
        have hsz : e.on < listed.size := by
          have : i < ops.size := by have := nth?_lt h2; simp at this; omega
          omega
        simpa [hsz] using hh⟩
      rw [hr] at this
      cases this
    · obtain ⟨hun, o, ho, hall⟩ := mem_ready.1 hi
      have ho' : ops.toList[i - 0]? = some o := by simpa using ho
      obtain ⟨pre, post, e1, e2, e3⟩ := rem_split listed hun ops.toList 0 (Nat.zero_le _) ho'
      have hpairs := (draw_spec ops.toList 0 hd i o (Nat.zero_le _) ho').2
      have hswap : ∀ j ∈ pre, swapOk H f ops.toList j o = true := by
        intro p hp'
        obtain ⟨j, _, j2, j3, j4⟩ := e3 p hp'
        rcases pairs_spec ops.toList 0 hpairs j p (Nat.zero_le _) j3 with hb | hb | hb
        · exfalso
          unfold bindsOn at hb
          rw [Array.any_eq_true] at hb
          obtain ⟨k, hk, hb⟩ := hb
          simp only [Bool.and_eq_true, beq_iff_eq] at hb
          have := hall o.after[k] (Array.getElem_mem hk) hb.2
          rw [hb.1] at this
          rcases Nat.lt_or_ge j listed.size with hj | hj
          · simp [hj] at this j4; rw [j4] at this; cases this
          · simp [Array.getElem?_eq_none hj] at this
        · omega
        · exact hb
      rw [e1] at h hf
      obtain ⟨tm1, hp1, g1, g2⟩ := seq_front o post pre tm hp hswap h
      have hos := oper_sound (ops := ops) (C := fun tm hp => some (tm, hp)) (r := (tm1, hp1)) hH hc (o := o) (a := a) hs ht (by
        refine (guard_eq (P := P) (H := H) (call := call) (f := f) ops.toList o fun tm hp => some (tm, hp)).trans ?_
        rw [g1]; rfl) (next := wpAny P .any ops Q fuel (listed.setIfInBounds i true)) (Q := Q) (fun tm' hp' S' φ' a' w' k1 k2 k3 k4 k5 => by
          cases k1
          refine ih (listed.setIfInBounds i true) S' w' tm1 hp1 φ' a' (by rw [e2]; simp at hf ⊢; omega) (by simpa using hl) k3 k2 (by rw [e2]; exact g2) fun S'' φ'' a'' w'' l1 l2 l3 l4 => hn S'' φ'' a'' w'' l1 l2 (k4.trans l3) (l4.trans k5))
      unfold wpOp
      simp only [ho]
      split
      · rename_i hw; rw [if_pos hw] at hos; exact .inl hos
      · rename_i hw; rw [if_neg hw] at hos; exact hos

theorem anc_listed {ops : Array Oper} {listed : Array Bool} (hl : listed.size = ops.size) (hdown : ∀ (i : Nat) (o : Oper), ops[i]? = some o → listed.getD i true = true → ∀ e ∈ o.after, Region.binds .any e = true → listed.getD e.on false = true) : ∀ (n : Nat) (o : Oper) (j : Nat), (∀ e ∈ o.after, Region.binds .any e = true → listed.getD e.on false = true) → anc ops.toList n o j = true → listed.getD j false = true := by
  have base : ∀ (o : Oper) (j : Nat), (∀ e ∈ o.after, Region.binds .any e = true → listed.getD e.on false = true) → bindsOn o j = true → listed.getD j false = true := by
    intro o j ho hb
    unfold bindsOn at hb
    rw [Array.any_eq_true] at hb
    obtain ⟨k, hk, hb⟩ := hb
    simp only [Bool.and_eq_true, beq_iff_eq] at hb
    have h3 := ho o.after[k] (Array.getElem_mem hk) hb.2
    rw [hb.1] at h3; exact h3
  intro n
  induction n with
  | zero => exact base
  | succ n ih =>
    intro o j ho h
    simp only [anc, Bool.or_eq_true, List.any_eq_true, Bool.and_eq_true] at h
    rcases h with h | ⟨e, he, hb, h⟩
    · exact base o j ho h
    · cases hq : nth? ops.toList e.on with
      | none => rw [hq] at h; cases h
      | some q =>
        rw [hq] at h
        rw [nth?_eq] at hq
        have hq : ops[e.on]? = some q := by simpa using hq
        have he' := ho e (by simpa using he) hb
        have hlt := (Array.getElem?_eq_some_iff.1 hq).1
        exact ih q j (hdown e.on q hq (by simpa [hl, hlt] using he')) h
theorem any_sound2 (hH : GoodH P H) (hc : SoundCall P H call) {ord : List Nat} (hd : orderOk H f ops ord = true) {Q : Exit → Act → World → Prop} {fin : Tm × Hp} : ∀ (fuel : Nat) (listed : Array Bool) (S : Nat → Nat → Prop) (w : World) (tm : Tm) (hp : Hp) (φ : List Pl) (a : Act), ((permN ops.toList ord).filter fun p => !(listed.getD p.1 true)).length = fuel → listed.size = ops.size → (∀ (i : Nat) (o : Oper), ops[i]? = some o → listed.getD i true = true → ∀ e ∈ o.after, Region.binds .any e = true → listed.getD e.on false = true) → Sim P base S w hp φ → Reps S w hp φ tm a.tmps.toList →
    seqD P H call f ops.toList (((permN ops.toList ord).filter fun p => !(listed.getD p.1 true)).map (·.2)) tm hp = some fin →
    (∀ S' φ' a' w', Reps S' w' fin.2 φ' fin.1 a'.tmps.toList → Sim P base S' w' fin.2 φ' → Trans base S w hp φ S' w' fin.2 φ' → a'.defers = a.defers → Q .normal a' w') → wpAny P .any ops Q fuel listed a w := by
  simp only [orderOk, Bool.and_eq_true, List.all_eq_true, List.mem_range] at hd
  obtain ⟨⟨⟨_, hd1⟩, hd2⟩, hd3⟩ := hd
  have hpw := pairB_spec hd2
  have hin : ∀ (listed : Array Bool) (i : Nat) (o : Oper), ops[i]? = some o → listed.getD i true = false → (i, o) ∈ (permN ops.toList ord).filter fun p => !(listed.getD p.1 true) := by
    intro listed i o ho hun
    refine List.mem_filter.2 ⟨mem_permN ops.toList (by simpa using ho) ord ?_, by simp only [hun, Bool.not_false]⟩
    have := hd1 i (Array.getElem?_eq_some_iff.1 ho).1
    simpa using this
  intro fuel
  induction fuel with
  | zero =>
    intro listed S w tm hp φ a hf hl hdown hs ht h hn
    have hrem := List.eq_nil_of_length_eq_zero hf
    rw [hrem] at h
    cases h
    refine ⟨?_, hn S φ a w ht hs (.refl _ _ _ _ _) rfl⟩
    cases hr : Region.ready .any ops listed with
    | nil => rfl
    | cons i t =>
      have hi : i ∈ Region.ready .any ops listed := by rw [hr]; exact List.mem_cons_self
      obtain ⟨hun, o, ho, _⟩ := mem_ready.1 hi
      have := hin listed i o ho hun
      rw [hrem] at this
      cases this
  | succ fuel ih =>
    intro listed S w tm hp φ a hf hl hdown hs ht h hn
    have hrpw := hpw.filter fun p => !(listed.getD p.1 true)
    have hmem : ∀ p ∈ (permN ops.toList ord).filter (fun p => !(listed.getD p.1 true)), ops[p.1]? = some p.2 ∧ listed.getD p.1 true = false := by
      intro p hp'
      obtain ⟨h1, h2⟩ := List.mem_filter.1 hp'
      exact ⟨by have := permN_mem ops.toList ord (i := p.1) (o := p.2) h1; simpa using this, by simpa using h2⟩
    refine ⟨fun hr => ?_, fun i hi => ?_⟩
    · exfalso
      cases hrem : (permN ops.toList ord).filter (fun p => !(listed.getD p.1 true)) with
      | nil => rw [hrem] at hf; simp at hf
      | cons p rest =>
        obtain ⟨i, o⟩ := p
        have hio := hmem (i, o) (by rw [hrem]; exact List.mem_cons_self)
        rw [hrem] at hrpw
        have hL : (i, o) ∈ permN ops.toList ord := (List.mem_filter.1 (show (i, o) ∈ (permN ops.toList ord).filter (fun p => !(listed.getD p.1 true)) by rw [hrem]; exact List.mem_cons_self)).1
        have hself := hd3 (i, o) hL
        simp only [Bool.and_eq_true, Bool.not_eq_true'] at hself
        have : i ∈ Region.ready .any ops listed := mem_ready.2 ⟨hio.2, o, hio.1, fun e he hb => by
          have hsz : e.on < ops.size := by
            have := hself.2
            rw [Array.all_eq_true_iff_forall_mem] at this
            have := this e he
            simpa [hb] using this
          have hbo : bindsOn o e.on = true := by
            unfold bindsOn
            rw [Array.any_eq_true]
            obtain ⟨k, hk, hke⟩ := Array.getElem_of_mem he
            exact ⟨k, hk, by rw [hke]; simp [hb]⟩
          by_cases hun : listed.getD e.on true = true
          · simpa [hl, hsz] using hun
          · have hun : listed.getD e.on true = false := by simpa using hun
            have hin' := hin listed e.on ops[e.on] (Array.getElem?_eq_getElem hsz) hun
            rw [hrem] at hin'
            rcases List.mem_cons.1 hin' with e1 | e1
            · cases e1
              rw [hself.1] at hbo; cases hbo
            · have := (List.pairwise_cons.1 hrpw).1 _ e1
              rw [this.2.1] at hbo; cases hbo⟩
        rw [hr] at this
        cases this
    · obtain ⟨hun, o, ho, hall⟩ := mem_ready.1 hi
      obtain ⟨pre, post, e1⟩ := List.append_of_mem (hin listed i o ho hun)
      rw [e1] at hrpw
      have hpp := List.pairwise_append.1 hrpw
      have hswap : ∀ j ∈ pre.map (·.2), swapOk H f ops.toList j o = true := by
        intro p hp'
        obtain ⟨q, hq, rfl⟩ := List.mem_map.1 hp'
        have hx := hpp.2.2 q hq (i, o) List.mem_cons_self
        rcases hx.2.2 with hb | hb
        · exact hb
        · exfalso
          have h3 := anc_listed hl hdown 4 o q.1 (fun e he hb => by have := hall e he hb; simpa using this) hb
          have h4 := (hmem q (by rw [e1]; exact List.mem_append_left _ hq)).2
          rcases Nat.lt_or_ge q.1 listed.size with hj | hj
          · simp [hj] at h3 h4; rw [h4] at h3; cases h3
          · simp [Array.getElem?_eq_none hj] at h3
      have e2 : (permN ops.toList ord).filter (fun p => !((listed.setIfInBounds i true).getD p.1 true)) = pre ++ post := by
        have : (permN ops.toList ord).filter (fun p => !((listed.setIfInBounds i true).getD p.1 true)) = ((permN ops.toList ord).filter fun p => !(listed.getD p.1 true)).filter fun p => !(Nat.beq p.1 i) := by
          rw [List.filter_filter]
          refine List.filter_congr fun p hp' => ?_
          by_cases hpi : p.1 = i
          · have hs : (listed.setIfInBounds i true).getD p.1 true = true := by
              rw [hpi]
              rcases Nat.lt_or_ge i listed.size with h | h
              · simp [h]
              · simp [Array.getElem?_eq_none h] at hun
            rw [hs, hpi, Nat.beq_refl]; rfl
          · rw [getD_set_ne true (Ne.symm hpi)]
            have : Nat.beq p.1 i = false := by
              rw [Bool.eq_false_iff]; exact fun h => hpi (Nat.eq_of_beq_eq_true h)
            rw [this]; simp
        rw [this, e1, List.filter_append, List.filter_cons]
        have hi0 : (!(Nat.beq i i)) = false := by rw [Nat.beq_refl]; rfl
        simp only [hi0, Bool.false_eq_true, if_false]
        rw [List.filter_eq_self.2, List.filter_eq_self.2]
        · intro q hq
          have := ((List.pairwise_cons.1 hpp.2.1).1 q hq).1
          have : Nat.beq q.1 i = false := by
            rw [Bool.eq_false_iff]; exact fun h => this (Nat.eq_of_beq_eq_true h).symm
          rw [this]; rfl
        · intro q hq
          have := (hpp.2.2 q hq (i, o) List.mem_cons_self).1
          have : Nat.beq q.1 i = false := by
            rw [Bool.eq_false_iff]; exact fun h => this (Nat.eq_of_beq_eq_true h)
          rw [this]; rfl
      rw [e1] at h hf
      rw [List.map_append, List.map_cons] at h
      have hdown' : ∀ (k : Nat) (q : Oper), ops[k]? = some q → (listed.setIfInBounds i true).getD k true = true → ∀ e ∈ q.after, Region.binds .any e = true → (listed.setIfInBounds i true).getD e.on false = true := by
        intro k q hq hk e he hb
        by_cases hki : k = i
        · subst hki
          rw [ho] at hq; cases hq
          exact getD_set_true (by have := hall e he hb; simpa using this)
        · rw [getD_set_ne true (Ne.symm hki)] at hk
          exact getD_set_true (hdown k q hq hk e he hb)
      obtain ⟨tm1, hp1, g1, g2⟩ := seq_front o (post.map (·.2)) (pre.map (·.2)) tm hp hswap h
      have hos := oper_sound (ops := ops) (C := fun tm hp => some (tm, hp)) (r := (tm1, hp1)) hH hc (o := o) (a := a) hs ht (by
        refine (guard_eq (P := P) (H := H) (call := call) (f := f) ops.toList o fun tm hp => some (tm, hp)).trans ?_
        rw [g1]; rfl) (next := wpAny P .any ops Q fuel (listed.setIfInBounds i true)) (Q := Q) (fun tm' hp' S' φ' a' w' k1 k2 k3 k4 k5 => by
          cases k1
          refine ih (listed.setIfInBounds i true) S' w' tm1 hp1 φ' a' (by rw [e2]; simp at hf ⊢; omega) (by simpa using hl) hdown' k3 k2 (by rw [e2, List.map_append]; exact g2) fun S'' φ'' a'' w'' l1 l2 l3 l4 => hn S'' φ'' a'' w'' l1 l2 (k4.trans l3) (l4.trans k5))
      unfold wpOp
      simp only [ho]
      split
      · rename_i hw; rw [if_pos hw] at hos; exact .inl hos
      · rename_i hw; rw [if_neg hw] at hos; exact hos

theorem region_sound {ρ : Type} {r : ρ} (hm : P.follows .mixedOrders = true) (hH : GoodH P H) (hc : SoundCall P H call) {id : Nat} {draw : Bool} (hd : regionOk H f id ops draw = true) {Q : Exit → Act → World → Prop} {S : Nat → Nat → Prop} {w : World} {tm : Tm} {hp : Hp} {φ : List Pl} {a : Act} {K : Tm → Hp → Option ρ} (hs : Sim P base S w hp φ) (ht : Reps S w hp φ tm a.tmps.toList)
    (h : runOps P H call f ops.toList (orderL ops.toList (H.order f id)) tm hp K = some r) (hn : ∀ tm' hp' S' φ' a' w', K tm' hp' = some r → Reps S' w' hp' φ' tm' a'.tmps.toList → Sim P base S' w' hp' φ' → Trans base S w hp φ S' w' hp' φ' → a'.defers = a.defers → Q .normal a' w') : (Code.region id ops draw).wp P Q a w := by
  cases hord : H.order f id with
  | cons k ord =>
    rw [hord] at h
    simp only [regionOk, hord, Bool.and_eq_true] at hd
    obtain ⟨rfl, hd⟩ := hd
    rw [runOps_eq] at h
    simp only [orderL] at h
    cases hq : seqD P H call f ops.toList (permL ops.toList (k :: ord)) tm hp with
    | none => rw [hq] at h; cases h
    | some fin =>
      rw [hq] at h
      refine wp_region_any hm ?_
      have hs' : Sim P base S { w with drawn := w.drawn + 1 } hp φ := hs.drew
      have htr : Trans base S w hp φ S { w with drawn := w.drawn + 1 } hp φ := ⟨fun b o h => ⟨h, rfl⟩, .refl _ _, (Below.refl _ _).drew, fun _ _ h => .inl h⟩
      have hall : (permN ops.toList (k :: ord)).filter (fun p => !((Array.replicate ops.size false).getD p.1 true)) = permN ops.toList (k :: ord) := List.filter_eq_self.2 fun p hp' => by
        have := permN_mem ops.toList (k :: ord) (i := p.1) (o := p.2) hp'
        have hlt := nth?_lt this
        simp at hlt
        simp [hlt]
      have hlen : (permN ops.toList (k :: ord)).length = ops.size := by
        simp only [orderOk, Bool.and_eq_true, decide_eq_true_eq] at hd
        exact hd.1.1.1
      refine any_sound2 hH hc hd ops.size _ S _ tm hp φ a (by rw [hall, hlen]) (by simp) (fun i o hi hli => by
        have hlt := (Array.getElem?_eq_some_iff.1 hi).1
        simp [hlt] at hli) hs' (Reps.mono htr.s ht htr.hp) (by rw [hall, permN_map]; exact hq) fun S' φ' a' w' h1 h2 h3 h4 => hn fin.1 fin.2 S' φ' a' w' h h1 h2 (htr.trans h3) h4
  | nil =>
  rw [hord] at h
  simp only [regionOk, hord] at hd
  simp only [orderL] at h
  have hd : draw = true → drawOk H f ops = true := fun e => by subst e; simpa using hd
  cases draw with
  | false => exact wp_region_list (runOps_sound hH hc ops.toList S w hp φ tm a K hs ht h hn)
  | true =>
    rw [runOps_eq] at h
    cases hq : seqD P H call f ops.toList ops.toList tm hp with
    | none => rw [hq] at h; cases h
    | some fin =>
      rw [hq] at h
      refine wp_region_any hm ?_
      have hs' : Sim P base S { w with drawn := w.drawn + 1 } hp φ := hs.drew
      have hrem := rem_all ops.size ops.toList 0 (by simp)
      have htr : Trans base S w hp φ S { w with drawn := w.drawn + 1 } hp φ := ⟨fun b o h => ⟨h, rfl⟩, .refl _ _, (Below.refl _ _).drew, fun _ _ h => .inl h⟩
      refine any_sound hH hc (hd rfl) ops.size _ S _ tm hp φ a (by rw [hrem]; simp) (by simp) hs' (Reps.mono htr.s ht htr.hp) (by rw [hrem]; exact hq) fun S' φ' a' w' h1 h2 h3 h4 => hn fin.1 fin.2 S' φ' a' w' h h1 h2 (htr.trans h3) h4
end
end Go.Proofs.Ytaocgmkcjemecaa
end

/- The interpreter is sound: rows for nil slices, loops, calls. Parts of the proofs of the laws. Conditions: none. -/
section
namespace Go.Proofs.Ytaocgmkcjemecaa
open Go.RowKit
set_option linter.unusedVariables false
set_option linter.unusedSimpArgs false

section
variable {P : Program}

/-- Cells whose nil slices have become rows with numbers from a to b. -/
def Upped (a b : Nat) (l l' : List AV) : Prop := l'.length = l.length ∧ ∀ (i : Nat) (x : AV), l'[i]? = some x → l[i]? = some x ∨ (l[i]? = some AV.nils ∧ ∃ id, x = AV.row id 0 ∧ a ≤ id ∧ id < b)
theorem Upped.cons {a b : Nat} {l l' : List AV} {x y : AV} (h : Upped a b l l') (hx : y = x ∨ (x = .nils ∧ ∃ id, y = .row id 0 ∧ a ≤ id ∧ id < b)) : Upped a b (x :: l) (y :: l') := by
  refine ⟨by simp [h.1], fun i z hz => ?_⟩
  cases i with
  | zero =>
    simp at hz; subst hz
    rcases hx with rfl | ⟨rfl, h⟩
    · exact .inl rfl
    · exact .inr ⟨rfl, h⟩
  | succ i => simpa using h.2 i z (by simpa using hz)
theorem Upped.mono {a b a' b' : Nat} {l l' : List AV} (h : Upped a b l l') (ha : a' ≤ a) (hb : b ≤ b') : Upped a' b' l l' :=
  ⟨h.1, fun i x hx => (h.2 i x hx).imp id fun ⟨e, id, e1, e2, e3⟩ => ⟨e, id, e1, by omega, by omega⟩⟩
theorem Upped.refl (a b : Nat) (l : List AV) : Upped a b l l := ⟨rfl, fun i x h => .inl h⟩

def NilRows (P : Program) (l : List Ob) : Prop := ∀ o ∈ l, ∃ e, o = .row e (P.cellsOf e) [] ∧ 0 < P.cellsOf e

theorem upsCells_spec : ∀ (ts : List TypeId) (l : List AV) (n : Nat), Upped n (n + (upsCells P n ts l).2.length) l (upsCells P n ts l).1 ∧ NilRows P (upsCells P n ts l).2 := by
  intro ts
  induction ts with
  | nil => intro l n; cases l <;> exact ⟨.refl _ _ _, fun o h => by simp [upsCells] at h⟩
  | cons t ts ih =>
    intro l n
    cases l with
    | nil => exact ⟨.refl _ _ _, fun o h => by simp [upsCells] at h⟩
    | cons x l =>
      have other : (∀ y, x = y → upsCells P n (t :: ts) (x :: l) = (x :: (upsCells P n ts l).1, (upsCells P n ts l).2)) → Upped n (n + (upsCells P n (t :: ts) (x :: l)).2.length) (x :: l) (upsCells P n (t :: ts) (x :: l)).1 ∧ NilRows P (upsCells P n (t :: ts) (x :: l)).2 := fun h => by
        rw [h x rfl]
        exact ⟨(ih l n).1.cons (.inl rfl), (ih l n).2⟩
      cases x <;> first | exact other (fun _ _ => rfl) | skip
      cases he : elemOf P t with
      | none => exact other fun _ _ => by simp only [upsCells, he]
      | some e =>
        cases hz : decide (0 < P.cellsOf e) with
        | false => exact other fun _ _ => by simp only [upsCells, he, hz]
        | true =>
          have heq : upsCells P n (t :: ts) (.nils :: l) = (.row n 0 :: (upsCells P (n + 1) ts l).1, .row e (P.cellsOf e) [] :: (upsCells P (n + 1) ts l).2) := by simp only [upsCells, he, hz]
          rw [heq]
          obtain ⟨h1, h2⟩ := ih l (n + 1)
          refine ⟨(h1.mono (by omega) (by simp only [List.length_cons]; omega)).cons (.inr ⟨rfl, n, rfl, Nat.le_refl _, by simp only [List.length_cons]; omega⟩), fun o ho => ?_⟩
          rcases List.mem_cons.1 ho with rfl | ho
          · exact ⟨e, rfl, of_decide_eq_true hz⟩
          · exact h2 o ho

def UppedOb (a b : Nat) : Ob → Ob → Prop
  | .var t cs, o => ∃ cs', o = .var t cs' ∧ Upped a b cs cs'
  | o, o' => o' = o
theorem UppedOb.mono {a b a' b' : Nat} {o o' : Ob} (h : UppedOb a b o o') (ha : a' ≤ a) (hb : b ≤ b') : UppedOb a' b' o o' := by
  cases o with
  | var t cs => obtain ⟨cs', h1, h2⟩ := h; exact ⟨cs', h1, h2.mono ha hb⟩
  | row _ _ _ => exact h
  | arr _ _ => exact h
theorem upsObs_spec : ∀ (l : List Ob) (n : Nat), (upsObs P n l).1.length = l.length ∧ (∀ (i : Nat) o', (upsObs P n l).1[i]? = some o' → ∃ o, l[i]? = some o ∧ UppedOb n (n + (upsObs P n l).2.length) o o') ∧ NilRows P (upsObs P n l).2 := by
  intro l
  induction l with
  | nil => intro n; exact ⟨rfl, fun i o h => by simp [upsObs] at h, fun o h => by simp [upsObs] at h⟩
  | cons o l ih =>
    intro n
    have other : upsObs P n (o :: l) = (o :: (upsObs P n l).1, (upsObs P n l).2) → UppedOb n (n + (upsObs P n (o :: l)).2.length) o o → (upsObs P n (o :: l)).1.length = (o :: l).length ∧ (∀ (i : Nat) o', (upsObs P n (o :: l)).1[i]? = some o' → ∃ q, (o :: l)[i]? = some q ∧ UppedOb n (n + (upsObs P n (o :: l)).2.length) q o') ∧ NilRows P (upsObs P n (o :: l)).2 := fun h hu => by
      rw [h] at hu ⊢
      obtain ⟨h1, h2, h3⟩ := ih n
      refine ⟨by simp [h1], fun i o' ho => ?_, h3⟩
      cases i with
      | zero => simp at ho; subst ho; exact ⟨_, rfl, hu⟩
      | succ i => exact h2 i o' (by simpa using ho)
    cases o with
    | row _ _ _ => exact other rfl rfl
    | arr _ _ => exact other rfl rfl
    | var t cs =>
      obtain ⟨c1, c2⟩ := upsCells_spec (P := P) (cellTys P 6 t) cs n
      obtain ⟨h1, h2, h3⟩ := ih (n + (upsCells P n (cellTys P 6 t) cs).2.length)
      refine ⟨by simp [upsObs, h1], fun i o' ho => ?_, fun o ho => ?_⟩
      · cases i with
        | zero =>
          simp [upsObs] at ho; subst ho
          exact ⟨_, rfl, _, rfl, c1.mono (Nat.le_refl _) (by simp [upsObs])⟩
        | succ i =>
          obtain ⟨q, e1, e2⟩ := h2 i o' (by simpa [upsObs] using ho)
          exact ⟨q, e1, e2.mono (by omega) (by simp [upsObs]; omega)⟩
      · simp only [upsObs] at ho
        rcases List.mem_append.1 ho with ho | ho
        · exact c2 o ho
        · exact h3 o ho

theorem ups_sound {base : Nat} {S : Nat → Nat → Prop} {w : World} {hp : Hp} {φ : List Pl} (b : Bool) (hs : Sim P base S w hp φ) : ∃ φ', Sim P base S w (upsHp P b hp) φ' ∧ Trans base S w hp φ S w (upsHp P b hp) φ' := by
  cases b with
  | false => exact ⟨φ, hs, .refl _ _ _ _ _⟩
  | true =>
    obtain ⟨h1, h2, h3⟩ := upsObs_spec (P := P) hp hp.length
    simp only [upsHp]
    generalize (upsObs P hp.length hp).1 = L1 at *
    generalize (upsObs P hp.length hp).2 = L2 at *
    refine ⟨φ ++ L2.map fun _ => .sv (.slice none 0 0), ?_⟩
    have hφl := hs.len
    have old : ∀ id o', id < hp.length → (L1 ++ L2)[id]? = some o' → ∃ o, hp[id]? = some o ∧ UppedOb hp.length (hp.length + L2.length) o o' := fun id o' hid ho => by
      rw [List.getElem?_append_left (by omega)] at ho
      exact h2 id o' ho
    have new : ∀ id, hp.length ≤ id → id < hp.length + L2.length → ∃ e, (L1 ++ L2)[id]? = some (.row e (P.cellsOf e) []) ∧ 0 < P.cellsOf e ∧ (φ ++ L2.map fun _ => Pl.sv (.slice none 0 0))[id]? = some (.sv (.slice none 0 0)) := fun id i1 i2 => by
      have hlt : id - hp.length < L2.length := by omega
      obtain ⟨e, e1, e2⟩ := h3 L2[id - hp.length] (List.getElem_mem hlt)
      refine ⟨e, ?_, e2, ?_⟩
      · rw [List.getElem?_append_right (by omega), h1, List.getElem?_eq_getElem hlt, e1]
      · rw [List.getElem?_append_right (by omega), hφl, List.getElem?_map, List.getElem?_eq_getElem hlt]; rfl
    have hφold : ∀ id, id < hp.length → (φ ++ L2.map fun _ => Pl.sv (.slice none 0 0))[id]? = φ[id]? := fun id hid => List.getElem?_append_left (by omega)
    have same : ∀ id o, hp[id]? = some o → (∀ t cs, o ≠ Ob.var t cs) → (L1 ++ L2)[id]? = some o := fun id o ho hne => by
      have hid := nth?_lt ho
      obtain ⟨o', ho'⟩ : ∃ o', (L1 ++ L2)[id]? = some o' := ⟨_, List.getElem?_eq_getElem (by simp; omega)⟩
      obtain ⟨q, e1, e2⟩ := old id o' hid ho'
      rw [ho] at e1; cases e1
      cases o with
      | var t cs => exact absurd rfl (hne t cs)
      | row _ _ _ => rw [ho', show o' = _ from e2]
      | arr _ _ => rw [ho', show o' = _ from e2]
    have hE : HpExt hp φ (L1 ++ L2) (φ ++ L2.map fun _ => .sv (.slice none 0 0)) := by
      refine ⟨fun id b h => ?_, fun id size els h => ⟨els, ?_, rfl⟩, fun id e size els h => ⟨[], ?_, fun _ v hv => ?_⟩⟩
      · rw [hφold id (by have := nth?_lt h; omega)]; exact h
      · rw [nth?_eq] at h ⊢; exact same id _ h (fun _ _ e => by cases e)
      · rw [nth?_eq] at h ⊢; rw [List.append_nil]; exact same id _ h (fun _ _ e => by cases e)
      · rw [hφold id (by have := nth?_lt hv; omega)]; exact hv
    have hat : ∀ i b, blockAt (φ ++ L2.map fun _ => Pl.sv (.slice none 0 0)) i = some b → blockAt φ i = some b := by
      intro i b h
      unfold blockAt at h ⊢
      rcases Nat.lt_or_ge i hp.length with hi | hi
      · rw [hφold i hi] at h; exact h
      · rw [List.getElem?_append_right (by omega), List.getElem?_map] at h
        cases hL : L2[i - φ.length]? with
        | none => rw [hL] at h; simp at h
        | some q => rw [hL] at h; simp [Value.ownBlock] at h
    refine ⟨⟨by simp [hφl, h1], hs.low, hs.cell, fun id o' ho => ?_, fun i j b hi hj => hs.apart i j b (hat i b hi) (hat j b hj)⟩, ⟨.refl _ _, hE, .refl _ _, fun _ _ h => .inl h⟩⟩
    rcases Nat.lt_or_ge id hp.length with hid | hid
    · obtain ⟨o, e1, e2⟩ := old id o' hid ho
      have hok := (hs.obj id o e1).keep (S' := S) (w' := w) (.refl _ _) hE (hφold id hid) fun b hb => ⟨rfl, fun _ => .rfl⟩
      cases o with
      | row _ _ _ => rw [show o' = _ from e2]; exact hok
      | arr _ _ => rw [show o' = _ from e2]; exact hok
      | var t cs =>
        obtain ⟨cs', rfl, hu⟩ := e2
        obtain ⟨b, vs, E, g1, g2, g3, g4, g5, g6⟩ := hok
        refine ⟨b, vs, E, g1, g2, g3, Reps.of (by rw [hu.1, g4.length]) (fun i x v hx hv => ?_), g5, g6⟩
        rcases hu.2 i x hx with hx' | ⟨hx', rid, rfl, r1, r2⟩
        · obtain ⟨v', e1, e2⟩ := g4.get' hx'
          rw [hv] at e1; cases e1
          exact e2
        · obtain ⟨v', e1, e2⟩ := g4.get' hx'
          rw [hv] at e1; cases e1
          have := e2.nils_inv
          subst this
          obtain ⟨e, n1, n2, n3⟩ := new rid r1 r2
          exact .row _ _ rid 0 _ e (P.cellsOf e) [] (by rw [nth?_eq]; exact n1) (Nat.le_refl _) (.sl _ _ _ [] [] none 0 .nil ⟨by simp, fun j vs t u hj => by simp at hj⟩ ⟨Nat.le_refl _, by unfold maxLen; omega, fun _ => rfl⟩) fun _ => n3
    · obtain ⟨e, n1, n2, n3⟩ := new id hid (by have := nth?_lt ho; simp at this; omega)
      rw [ho] at n1; cases n1
      exact ⟨.slice none 0 0, [], n3, World.ownsRow_nil w base e _, .nil, by simp, n2, rfl, fun g hg => by simp [Value.ownBlock] at hg⟩
end
end Go.Proofs.Ytaocgmkcjemecaa
end

/- The interpreter is sound: code, calls. Parts of the proofs of the laws. Conditions: none. -/
section
namespace Go.Proofs.Ytaocgmkcjemecaa
open Go.RowKit
set_option linter.unusedVariables false
set_option linter.unusedSimpArgs false

def exitOf : Ex → Exit
  | .normal => .normal
  | .exit id => .exit id
  | .ret => .ret

def drawsC (H : Hints) (f : FuncId) : Code → Bool
  | .region id ops draw => regionOk H f id ops draw
  | .seq a b => drawsC H f a && drawsC H f b
  | .cond _ a b => drawsC H f a && drawsC H f b
  | .block _ b => drawsC H f b
  | .loop b => drawsC H f b
  | _ => true

section
variable {P : Program} {H : Hints} {call : CallT} {f : FuncId} {base fuel : Nat} {ρ : Type}

/-- What is asked behind a piece of code. -/
def Then (P : Program) (base : Nat) (Q : Exit → Act → World → Prop) (K : Ex → Tm → Hp → Option ρ) (r : ρ) (S : Nat → Nat → Prop) (w : World) (hp : Hp) (φ : List Pl) (a : Act) : Prop :=
  ∀ e tm' hp' S' φ' a' w', K e tm' hp' = some r → Reps S' w' hp' φ' tm' a'.tmps.toList → Sim P base S' w' hp' φ' → Trans base S w hp φ S' w' hp' φ' → a'.defers = a.defers → Q (exitOf e) a' w'

theorem runC_sound (hm : P.follows .mixedOrders = true) (hH : GoodH P H) (hc : SoundCall P H call) : ∀ (c : Code), drawsC H f c = true → ∀ {r : ρ} {K : Ex → Tm → Hp → Option ρ} {Q : Exit → Act → World → Prop} {S : Nat → Nat → Prop} {w : World} {tm : Tm} {hp : Hp} {φ : List Pl} {a : Act}, Sim P base S w hp φ → Reps S w hp φ tm a.tmps.toList → runC P H call f fuel c tm hp K = some r → Then P base Q K r S w hp φ a → c.wp P Q a w := by
  intro c
  induction c with
  | skip => intro _ r K Q S w tm hp φ a hs ht h hn; exact wp_skip (hn .normal _ _ _ _ _ _ h ht hs (.refl _ _ _ _ _) rfl)
  | region id ops draw =>
    intro hd r K Q S w tm hp φ a hs ht h hn
    rw [runC_region] at h
    exact region_sound hm hH hc (by simpa [drawsC] using hd) hs ht h fun tm' hp' S' φ' a' w' g1 g2 g3 g4 g5 => hn .normal _ _ _ _ _ _ g1 g2 g3 g4 g5
  | seq x y ihx ihy =>
    intro hd r K Q S w tm hp φ a hs ht h hn
    simp only [drawsC, Bool.and_eq_true] at hd
    refine wp_seq (ihx hd.1 hs ht h fun e tm' hp' S' φ' a' w' g1 g2 g3 g4 g5 => ?_)
    cases e with
    | normal => exact ihy hd.2 g3 g2 g1 fun e tm'' hp'' S'' φ'' a'' w'' k1 k2 k3 k4 k5 => hn e _ _ _ _ _ _ k1 k2 k3 (g4.trans k4) (k5.trans g5)
    | exit id => exact hn (.exit id) _ _ _ _ _ _ g1 g2 g3 g4 g5
    | ret => exact hn .ret _ _ _ _ _ _ g1 g2 g3 g4 g5
  | cond x y z ihy ihz =>
    intro hd r K Q S w tm hp φ a hs ht h hn
    simp only [drawsC, Bool.and_eq_true] at hd
    rw [runC_cond] at h
    have hx := ev_rep ht x
    cases hb : ev tm x <;> rw [hb] at h <;> simp only at h <;> first | (cases h; done) | skip
    rename_i t
    rw [hb] at hx
    have hbe := hx.bool_inv
    cases t with
    | true => exact wp_cond_true hbe (ihy hd.1 hs ht h hn)
    | false => exact wp_cond_false hbe (ihz hd.2 hs ht h hn)
  | block id y ih =>
    intro hd r K Q S w tm hp φ a hs ht h hn
    simp only [drawsC] at hd
    refine wp_block (ih hd hs ht h fun e tm' hp' S' φ' a' w' g1 g2 g3 g4 g5 => ?_)
    cases e with
    | normal => exact hn .normal _ _ _ _ _ _ g1 g2 g3 g4 g5
    | ret => exact hn .ret _ _ _ _ _ _ g1 g2 g3 g4 g5
    | exit k =>
      simp only at g1
      simp only [exitOf, Exit.inBlock]
      by_cases hk : k = id
      · rw [decide_eq_true hk] at g1
        rw [if_pos hk]
        exact hn .normal _ _ _ _ _ _ g1 g2 g3 g4 g5
      · rw [decide_eq_false hk] at g1
        rw [if_neg hk]
        exact hn (.exit k) _ _ _ _ _ _ g1 g2 g3 g4 g5
  | loop y ih =>
    intro hd r K Q S w tm hp φ a hs ht h hn
    simp only [drawsC] at hd
    rw [runC_loop] at h
    simp only [forceHp_eq, forceL_eq force_eq] at h
    obtain ⟨φ1, hs1, tr1⟩ := ups_sound (H.ups f) hs
    generalize hhp1 : upsHp P (H.ups f) hp = hp1 at *
    have hle : hp.length ≤ hp1.length ∧ φ.length = hp.length := by
      refine ⟨?_, hs.len⟩
      rw [← hhp1]
      cases H.ups f with
      | false => exact Nat.le_refl _
      | true => simp [upsHp, (upsObs_spec (P := P) hp hp.length).1]
    have ht1 := Reps.mono tr1.s ht tr1.hp
    have ht2 := keepTm_rep (h0 := hp1.length) (keep := H.keep f (firstReg y) 0) hs1 ht1 0
    have hs2 := hs1.wane (h0 := hp1.length)
    have tr2 := tr1.wane (h0 := hp1.length) hs1 hle.1 hle.2
    have key : ∀ (n : Nat) (S1 : Nat → Nat → Prop) (w1 : World) (tm1 : Tm) (hp2 : Hp) (φ2 : List Pl) (a1 : Act), Sim P base S1 w1 hp2 φ2 → Reps S1 w1 hp2 φ2 tm1 a1.tmps.toList → Trans base S w hp φ S1 w1 hp2 φ2 → a1.defers = a.defers → rounds (runC P H call f fuel y) (H.keep f (firstReg y)) hp1.length n tm1 hp2 K = some r → Code.rounds P y Q n a1 w1 := by
      intro n
      induction n with
      | zero => intro S1 w1 tm1 hp2 φ2 a1 _ _ _ _ h; simp [rounds] at h
      | succ n ihn =>
        intro S1 w1 tm1 hp2 φ2 a1 k1 k2 k3 k4 h
        rw [rounds_succ]
        rw [rounds] at h
        refine ih hd k1 k2 h fun e tm' hp' S' φ' a' w' g1 g2 g3 g4 g5 => ?_
        simp only [forceHp_eq, forceL_eq force_eq] at g1
        have tr := k3.trans g4
        have t1 := keepTm_rep (h0 := hp1.length) (keep := H.keep f (firstReg y) (exMode e)) g3 g2 0
        have t2 := g3.wane (h0 := hp1.length)
        have t3 := tr.wane (h0 := hp1.length) g3 hle.1 hle.2
        cases e with
        | normal => exact ihn _ _ _ _ _ a' t2 t1 t3 (g5.trans k4) g1
        | exit id => exact hn (.exit id) _ _ _ _ _ _ g1 t1 t2 t3 (g5.trans k4)
        | ret => exact hn .ret _ _ _ _ _ _ g1 t1 t2 t3 (g5.trans k4)
    exact wp_loop_rounds fuel (key fuel _ _ _ _ _ a hs2 ht2 tr2 rfl h)
  | exit id => intro _ r K Q S w tm hp φ a hs ht h hn; exact wp_exit (hn (.exit id) _ _ _ _ _ _ h ht hs (.refl _ _ _ _ _) rfl)
  | ret => intro _ r K Q S w tm hp φ a hs ht h hn; exact wp_ret (hn .ret _ _ _ _ _ _ h ht hs (.refl _ _ _ _ _) rfl)
  | _ => intros; rename_i h _; cases h

def resSem (tmps : Array Value) : ResultVar → Sem Value
  | .tmp t => pure (tmps.getD t undef)
  | .cell a t => do loadVar t (← asAddr (tmps.getD a undef))
theorem resL_sound {S : Nat → Nat → Prop} {w : World} {tm : Tm} {hp : Hp} {φ : List Pl} {tmps : Array Value} {r : ρ} (hs : Sim P base S w hp φ) (ht : Reps S w hp φ tm tmps.toList) : ∀ (rs : List ResultVar) (C : List AV → Option ρ), resL P tm hp C rs = some r →
    ∃ vs us, C vs = some r ∧ (rs.mapM (resSem tmps)).run P w = .ok us w ∧ Reps S w hp φ vs us := by
  have at' : ∀ t, Rep S w hp φ (nth .junk tm t) (tmps.getD t undef) := fun t => ev_rep (a := ⟨tmps, []⟩) ht (.tmp t)
  intro rs
  induction rs with
  | nil => intro C h; exact ⟨[], [], h, by simp, .nil _ _⟩
  | cons q rs ih =>
    intro C h
    cases q with
    | tmp t =>
      simp only [resL] at h
      obtain ⟨vs, us, h1, h2, h3⟩ := ih _ h
      refine ⟨_, tmps.getD t undef :: us, h1, ?_, .cons _ _ _ _ _ _ (at' t) h3⟩
      rw [List.mapM_cons]
      simp only [resSem, Sem.run_bind, Sem.run_pure, Result.andThen_ok, h2]
    | cell t ty =>
      simp only [resL] at h
      obtain ⟨ad, v, u, he, h1, h2, h3⟩ := load_var hs (at' t) h
      obtain ⟨vs, us, g1, g2, g3⟩ := ih _ h1
      refine ⟨_, u :: us, g1, ?_, .cons _ _ _ _ _ _ h3 g3⟩
      rw [List.mapM_cons]
      simp only [resSem, he, asAddr, Sem.run_bind, Sem.run_pure, Result.andThen_ok, h2, g2]
def oneOf : List Value → Value
  | [u] => u
  | us => .tuple us.toArray
theorem run_results {fn : Func} {tmps : Array Value} {w : World} {us : List Value} (h : (fn.results.toList.mapM (resSem tmps)).run P w = .ok us w) : (results fn tmps).run P w = .ok (oneOf us) w := by
  have e : results fn tmps = (do let vs ← fn.results.mapM (resSem tmps); pure (if h : vs.size = 1 then vs[0] else .tuple vs)) := by
    unfold results
    congr 2
  rw [e, Array.mapM_eq_mapM_toList]
  simp only [Sem.run_bind, Sem.run_map, h, Result.andThen_ok, Sem.run_pure]
  congr 1
  match us with
  | [] => rfl
  | [u] => rfl
  | u :: u2 :: us => simp [oneOf]

theorem fn_sound (hm : P.follows .mixedOrders = true) (hH : GoodH P H) (hc : SoundCall P H call) (hd : ∀ g fn c, H.plain.contains g = true → P.funcs[g]? = some fn → fn.body = some c → drawsC H g c = true) {g : FuncId} {args : List AV} {hp : Hp} {v : AV} {hp' : Hp} {stay : Bool} (h : runFn P H call fuel stay g args hp = some (v, hp'))
    {S : Nat → Nat → Prop} {w : World} {φ : List Pl} {vs : List Value} (hs : Sim P base S w hp φ) (hr : Reps S w hp φ args vs) : Calls P g vs.toArray w fun e w' => ∃ u S' φ', e = .returned u ∧ Rep S' w' hp' φ' v u ∧ Sim P base S' w' hp' φ' ∧ Trans base S w hp φ S' w' hp' φ' := by
  unfold runFn at h
  cases hf : P.funcs[g]? with
  | none => rw [hf] at h; cases h
  | some fn =>
    rw [hf] at h
    simp only at h
    cases hb : fn.body with
    | none => rw [hb] at h; cases h
    | some c =>
      rw [hb] at h
      simp only at h
      split at h
      · rename_i hq
        simp only [Bool.and_eq_true, decide_eq_true_eq] at hq
        refine calls_of_wp hf hb ?_
        have hlen := hr.length
        have hund : ∀ n, Reps S w hp φ (List.replicate n .junk) (List.replicate n undef) := by
          intro n
          induction n with
          | zero => exact .nil _ _
          | succ n ih => exact .cons _ _ _ _ _ _ (.junk _ _ _) ih
        refine runC_sound hm hH hc c (hd g fn c hq.1 hf hb) (a := ⟨vs.toArray ++ Array.replicate (fn.ntmps - vs.toArray.size) undef, []⟩) hs ?_ h ?_
        · simp only [Array.toList_append, Array.toList_replicate, List.size_toArray, ← hlen]
          exact hr.append (hund _)
        · intro e tm' hp1 S' φ' a' w' g1 g2 g3 g4 g5
          have fin : resV P fn tm' hp1 (fun v => leave stay hp.length v hp1) = some (v, hp') → a'.defers = [] ∧ ∃ u, (results fn a'.tmps).run P w' = .ok u w' ∧ ∃ u' S' φ', Ending.returned u = .returned u' ∧ Rep S' w' hp' φ' v u' ∧ Sim P base S' w' hp' φ' ∧ Trans base S w hp φ S' w' hp' φ' := by
            intro hres
            refine ⟨g5, ?_⟩
            obtain ⟨as, us, r1, r2, r3⟩ := resL_sound g3 g2 fn.results.toList _ hres
            have fin2 : ∀ (x : AV) (u : Value), Rep S' w' hp1 φ' x u → (results fn a'.tmps).run P w' = .ok u w' → (leave stay hp.length x hp1) = some (v, hp') → ∃ u, (results fn a'.tmps).run P w' = .ok u w' ∧ ∃ u' S' φ', Ending.returned u = .returned u' ∧ Rep S' w' hp' φ' v u' ∧ Sim P base S' w' hp' φ' ∧ Trans base S w hp φ S' w' hp' φ' := by
              intro x u hx hrun he
              unfold leave at he
              split at he
              · cases he
                exact ⟨u, hrun, u, _, _, rfl, hx, g3, g4⟩
              · cases he
                exact ⟨u, hrun, u, _, _, rfl, wane_rep g3 hx, g3.wane, g4.wane g3 (Nat.le_refl _) hs.len⟩
            have hrun := run_results r2
            clear r2
            match as, us, r1, r3, hrun with
            | [], [], r1, r3, hrun => exact fin2 _ _ (.tup _ _ _ _ (normArgs_rep r3)) hrun r1
            | [x], [u], r1, r3, hrun => cases r3 with | cons _ _ _ _ _ _ hx _ => exact fin2 _ _ (norm_rep hx) hrun r1
            | x :: y :: l, u :: u2 :: us, r1, r3, hrun => exact fin2 _ _ (.tup _ _ _ _ (normArgs_rep r3)) hrun r1
          cases e with
          | exit id => cases g1
          | normal => exact fin g1
          | ret => exact fin g1
      · cases h
end

/-- Contracts that are known. -/
def SoundExt (P : Program) (X : Ext) : Prop := ∀ (g : FuncId) (k : List AV → Option AV), X g = some k → ∀ (args : List AV) (v : AV), k args = some v → ∀ (S : Nat → Nat → Prop) (w : World) (vs : List Value), (∀ b o, S b o → ∃ u, w.cell? ⟨b, o, none⟩ = some u) → Reps S w [] [] args vs →
  Calls P g vs.toArray w fun e w' => ∃ u S', e = .returned u ∧ Rep S' w' [] [] v u ∧ (∀ b o, S' b o → ∃ u, w'.cell? ⟨b, o, none⟩ = some u) ∧ SExt S w S' w' ∧ (∀ b o, S' b o → S b o ∨ w.heap.size ≤ b) ∧ Below w.heap.size w w'

theorem callS_sound {P : Program} {H : Hints} {X : Ext} (hm : P.follows .mixedOrders = true) (hH : GoodH P H) (hX : SoundExt P X) (hd : ∀ g fn c, H.plain.contains g = true → P.funcs[g]? = some fn → fn.body = some c → drawsC H g c = true) : ∀ n, SoundCall P H (callS P H X n)
  | 0 => fun st g args hp v hp' h => by simp [callS] at h
  | n + 1 => by
    have ih := callS_sound hm hH hX hd n
    intro st g args hp v hp' h base S w φ vs hs hr
    simp only [callS] at h
    cases hx : X g with
    | none =>
      rw [hx] at h
      exact fn_sound hm hH ih hd h hs hr
    | some k =>
      rw [hx] at h
      cases hp with
      | cons _ _ => cases h
      | nil =>
        simp only at h
        cases hk : k args with
        | none => rw [hk] at h; cases h
        | some u =>
          rw [hk] at h; cases h
          have hφ : φ = [] := List.eq_nil_of_length_eq_zero hs.len
          subst hφ
          refine (hX g k hx args v hk S w vs hs.cell hr).mono ?_
          rintro e w' ⟨u, S', rfl, h1, h2, h3, h4, h5⟩
          exact ⟨u, S', [], rfl, h1, ⟨rfl, Nat.le_trans hs.low h5.size, h2, fun id o ho => by simp at ho, fun i j b hi => by simp [blockAt] at hi⟩, ⟨h3, .refl _ _, h5.mono hs.low, fun b o h => (h4 b o h).elim .inl fun h => .inr (Nat.le_trans hs.low h)⟩⟩

end Go.Proofs.Ytaocgmkcjemecaa
end
