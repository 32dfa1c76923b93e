/- The interpreter's steps one by one: for regions that draw their order. Parts of the proofs of the laws. Conditions: none. -/
import Derived.Test.YtaocgmkcjemecaaAbsL
namespace Go.Proofs.Ytaocgmkcjemecaa
open Go.RowKit
set_option linter.unusedVariables false
set_option linter.unusedSimpArgs false

section
variable {ρ : Type} {P : Program} {H : Hints} {call : CallT} {f : FuncId} {tm : Tm} {hp : Hp}

theorem bif_bind {α : Type} (c : Bool) (a b : Option α) (K : α → Option ρ) : (bif c then a else b).bind K = bif c then a.bind K else b.bind K := by cases c <;> rfl
theorem mkAgg_nat (b : Option Bool) (cs : List AV) (K : AV → Option ρ) : mkAgg b cs K = (mkAgg b cs some).bind K := by
  unfold mkAgg; split
  · rfl
  · split <;> rfl
  · rfl
theorem sub_nat (l : List AV) (off n : Nat) (C : List AV → Option AV) (K : AV → Option ρ) (C' : List AV → Option ρ) (h : ∀ l, C' l = (C l).bind K) : sub l off n C' = (sub l off n C).bind K := by
  unfold sub; rw [bif_bind, h]; rfl
theorem load_nat (t : TypeId) (a : AV) (K : AV → Option ρ) : load P hp t K a = (load P hp t some a).bind K := by
  cases a <;> simp only [load] <;> first | rfl | skip
  · split
    · exact sub_nat _ _ _ _ _ _ fun l => mkAgg_nat _ _ _
    · rfl
  · split
    · split
      · exact sub_nat _ _ _ _ _ _ fun l => mkAgg_nat _ _ _
      · rfl
    · rfl
  · exact sub_nat _ _ _ _ _ _ fun l => mkAgg_nat _ _ _
theorem binInt_nat (op : BinOp) (k : IntKind) (a b : Int) (K : AV → Option ρ) : binInt op k a b K = (binInt op k a b some).bind K := by
  cases op <;> simp only [binInt, bif_bind] <;> rfl
theorem eqs_nat (C : Bool → Option AV) (C' : Bool → Option ρ) (K : AV → Option ρ) (h : ∀ c, C' c = (C c).bind K) (fs : List Field) : ∀ (xs ys : List AV), eqs P C' fs xs ys = (eqs P C fs xs ys).bind K := by
  induction fs generalizing C C' with
  | nil => intro xs ys; cases xs <;> cases ys <;> simp only [eqs] <;> first | exact h _ | rfl
  | cons g fs ih =>
    intro xs ys
    cases xs <;> cases ys <;> simp only [eqs] <;> first | rfl | skip
    repeat' split
    all_goals first | rfl | exact ih _ _ (fun c => h _) _ _
theorem binop_nat (t : TypeId) (op : BinOp) (a b : AV) (K : AV → Option ρ) : binop P t op K a b = (binop P t op some a b).bind K := by
  cases a <;> cases b <;> simp only [binop] <;> first | rfl | skip
  all_goals (repeat' split)
  all_goals first | rfl | exact binInt_nat _ _ _ _ _ | (rw [bif_bind]; rfl) | (refine eqs_nat _ _ _ (fun c => ?_) _ _ _; rfl)
theorem alen_nat (C : Nat → Option AV) (C' : Nat → Option ρ) (K : AV → Option ρ) (h : ∀ n, C' n = (C n).bind K) (a : AV) : alen C' a = (alen C a).bind K := by
  cases a <;> simp only [alen] <;> first | exact h _ | rfl
theorem shiftP_nat (a : AV) (n : Nat) (K : AV → Option ρ) : shiftP K a n = (shiftP some a n).bind K := by cases a <;> rfl
theorem elemAt_nat (size n : Nat) (els : List (List AV)) (i : Int) (sz : Nat) (K : AV → Option ρ) : elemAt size n els i sz K = (elemAt size n els i sz some).bind K := by
  unfold elemAt; split
  · rw [bif_bind]; congr 1; split <;> rfl
  · rfl
theorem indexA_nat (t : TypeId) (x : AV) (i : Int) (K : AV → Option ρ) : indexA P hp t x i K = (indexA P hp t x i some).bind K := by
  unfold indexA; split
  · split
    · split
      · rw [bif_bind, shiftP_nat]; rfl
      · rfl
    · rfl
  · cases x <;> simp only <;> first | rfl | exact elemAt_nat _ _ _ _ _ _ | skip
    · split
      · exact elemAt_nat _ _ _ _ _ _
      · rfl
    · split
      · split
        · rw [bif_bind]; rfl
        · rfl
      · rfl
theorem bounds_nat (n : Nat) (lo hi : Option AV) (C : Nat → Nat → Option AV) (C' : Nat → Nat → Option ρ) (K : AV → Option ρ) (h : ∀ l m, C' l m = (C l m).bind K) : bounds n lo hi C' = (bounds n lo hi C).bind K := by
  unfold bounds
  repeat' split
  all_goals first | rfl | exact h _ _ | (rw [bif_bind, h]; rfl)
theorem cutS_nat (x : AV) (sz : Nat) (lo hi : Option AV) (K : AV → Option ρ) : cutS hp x sz lo hi K = (cutS hp x sz lo hi some).bind K := by
  unfold cutS
  repeat' split
  all_goals first | rfl | exact bounds_nat _ _ _ _ _ _ fun _ _ => rfl
theorem pure_nat (op : Op) (K : AV → Option ρ) : pureOp P tm hp op K = (pureOp P tm hp op some).bind K := by
  unfold pureOp
  split
  case h_4 => exact binop_nat _ _ _ _ _
  case h_12 => exact load_nat _ _ _
  all_goals (repeat' split)
  all_goals first
    | rfl
    | (rw [bif_bind]; first | rfl | (congr 1; split <;> rfl))
    | exact shiftP_nat _ _ _
    | exact sub_nat _ _ _ _ _ _ (fun l => mkAgg_nat _ _ _)
    | exact indexA_nat _ _ _ _
    | exact bounds_nat _ _ _ _ _ _ (fun _ _ => rfl)
    | exact cutS_nat _ _ _ _ _
    | (refine alen_nat _ _ _ (fun _ => ?_) _; rfl)

/-- A step by itself. -/
def stepD (P : Program) (H : Hints) (call : CallT) (f : FuncId) (o : Oper) (tm : Tm) (hp : Hp) : Option (AV × Hp) := stepV P H call f o tm hp fun v hp => some (v, hp)

theorem asOb_nat (t : TypeId) (b1 b2 : Bool) (v : AV) (K : AV → Hp → Option ρ) : asOb P t b1 b2 hp K v = (asOb P t b1 b2 hp (fun v hp => some (v, hp)) v).bind fun p => K p.1 p.2 := by
  unfold asOb
  simp only [forceHp_eq]
  repeat' split
  all_goals rfl
theorem step_nat (o : Oper) (K : AV → Hp → Option ρ) : stepV P H call f o tm hp K = (stepD P H call f o tm hp).bind fun p => K p.1 p.2 := by
  have pu : ∀ op : Op, pureOp P tm hp op (fun v => K v hp) = (pureOp P tm hp op fun v => some (v, hp)).bind fun p => K p.1 p.2 := fun op => by
    rw [pure_nat, pure_nat (K := fun v => some (v, hp))]
    cases pureOp P tm hp op some <;> rfl
  have po : ∀ (op : Op) (t : TypeId) (b1 b2 : Bool), pureOp P tm hp op (fun v => asOb P t b1 b2 hp K v) = (pureOp P tm hp op fun v => asOb P t b1 b2 hp (fun v hp => some (v, hp)) v).bind fun p => K p.1 p.2 := fun op t b1 b2 => by
    rw [pure_nat, pure_nat (K := fun v => asOb P t b1 b2 hp (fun v hp => some (v, hp)) v)]
    cases pureOp P tm hp op some with
    | none => rfl
    | some v => exact asOb_nat _ _ _ _ _
  unfold stepD stepV
  simp only [forceHp_eq]
  split
  case h_2 => exact po _ _ _ _
  case h_3 => exact po _ _ _ _
  all_goals (repeat' split)
  all_goals first
    | rfl
    | exact pu _
    | (rw [bif_bind]; rfl)
    | (rw [bif_bind, bif_bind]; rfl)

/-- A step with its guard. -/
def stepG (P : Program) (H : Hints) (call : CallT) (f : FuncId) (ops : List Oper) (o : Oper) (tm : Tm) (hp : Hp) : Option (Tm × Hp) := match o.guard with
  | none => (stepD P H call f o tm hp).map fun p => (put tm o.dst p.1, p.2)
  | some (j, want) => match (nth? ops j).bind (·.dst) with
    | none => none
    | some t => match nth .junk tm t with
      | .bool b => if b = want then (stepD P H call f o tm hp).map fun p => (put tm o.dst p.1, p.2) else some (put tm o.dst (.tup []), hp)
      | .tup [] => some (put tm o.dst (.tup []), hp)
      | _ => none

def seqD (P : Program) (H : Hints) (call : CallT) (f : FuncId) (ops : List Oper) : List Oper → Tm → Hp → Option (Tm × Hp)
  | [], tm, hp => some (tm, hp)
  | o :: l, tm, hp => (stepG P H call f ops o tm hp).bind fun p => seqD P H call f ops l p.1 p.2

theorem guard_eq (ops : List Oper) (o : Oper) (C : Tm → Hp → Option ρ) : (match o.guard with
      | none => stepV P H call f o tm hp fun v hp => putK tm o.dst v fun tm => C tm hp
      | some (j, want) => match (nth? ops j).bind (·.dst) with
        | none => none
        | some t => match nth .junk tm t with
          | .bool b => match want with
            | true => bif b then stepV P H call f o tm hp (fun v hp => putK tm o.dst v fun tm => C tm hp) else (putK tm o.dst (.tup []) fun tm => C tm hp)
            | false => bif b then (putK tm o.dst (.tup []) fun tm => C tm hp) else stepV P H call f o tm hp (fun v hp => putK tm o.dst v fun tm => C tm hp)
          | .tup [] => putK tm o.dst (.tup []) fun tm => C tm hp
          | _ => none) = (stepG P H call f ops o tm hp).bind fun p => C p.1 p.2 := by
  have yes : (stepV P H call f o tm hp fun v hp => putK tm o.dst v fun tm => C tm hp) = ((stepD P H call f o tm hp).map fun p => (put tm o.dst p.1, p.2)).bind fun p => C p.1 p.2 := by
    rw [step_nat]
    simp only [putK_eq]
    cases stepD P H call f o tm hp <;> rfl
  unfold stepG
  cases o.guard with
  | none => exact yes
  | some p =>
    obtain ⟨j, want⟩ := p
    simp only
    split
    · rfl
    · split
      · rename_i b _
        simp only [putK_eq] at yes
        cases want <;> cases b <;> simp only [cond_true, cond_false, putK_eq]
        · rw [if_pos trivial]; exact yes
        · rfl
        · rfl
        · rw [if_pos trivial]; exact yes
      · simp only [putK_eq]; rfl
      · rfl

theorem runOps_eq (ops : List Oper) : ∀ (l : List Oper) (tm : Tm) (hp : Hp) (K : Tm → Hp → Option ρ), runOps P H call f ops l tm hp K = (seqD P H call f ops l tm hp).bind fun p => K p.1 p.2
  | [], tm, hp, K => rfl
  | o :: l, tm, hp, K => by
    rw [runOps_cons]
    have := guard_eq (P := P) (H := H) (call := call) (f := f) (tm := tm) (hp := hp) ops o (fun tm hp => runOps P H call f ops l tm hp K)
    refine this.trans ?_
    rw [seqD]
    cases stepG P H call f ops o tm hp with
    | none => rfl
    | some p => exact runOps_eq ops l p.1 p.2 K
end

/-! ### Which steps may be exchanged -/
inductive Cls where
  | P | R | C | A | G | W
  deriving DecidableEq

def cls (H : Hints) (f : FuncId) (o : Oper) : Cls := match o.op with
  | .assign _ => match objAt H f o.dst with
    | true => .A
    | false => .P
  | .alloc _ | .box _ _ => .A
  | .load _ _ | .indexAddr _ _ _ => .R
  | .buildSlice _ _ _ => match objAt H f o.dst || arrAt H f o.dst with
    | true => .A
    | false => .C
  | .makeSlice _ _ _ => match objAt H f o.dst || arrAt H f o.dst with
    | true => .A
    | false => .P
  | .slice _ _ _ _ _ => .C
  | .call c => match c.callee with
    | .value (.func g) => match H.inl f g with
      | true => .W
      | false => match adoAt H f o.dst with
        | true => .A
        | false => .C
    | .builtin .append => .G
    | .builtin .len => .P
    | .builtin .min => .P
    | .builtin .max => .P
    | _ => .W
  | .move _ | .pick _ _ _ | .binOp _ _ _ _ _ | .unOp _ _ _ | .convert _ _ _ | .nilCheck _ | .build _ _ | .fieldAddr _ _ _ | .field _ _ _ | .index _ _ _ | .extract _ _ | .makeFunc _ _ _ => .P
  | _ => .W

def clsOk : Cls → Cls → Bool
  | .P, _ | _, .P => true
  | .R, .R | .R, .C | .C, .R | .C, .C | .R, .A | .C, .A | .R, .G => true
  | _, _ => false

/-- The objects that were there are there, and rows have grown at most. -/
def Grown (hp hp' : Hp) : Prop := ∀ id o, nth? hp id = some o → ∃ o', nth? hp' id = some o' ∧ (o' = o ∨ ∃ e size els more, o = .row e size els ∧ o' = .row e size (els ++ more))
def More (hp hp' : Hp) : Prop := ∀ id o, nth? hp id = some o → nth? hp' id = some o
theorem More.append (hp x : Hp) : More hp (hp ++ x) := fun id o h => by
  rw [nth?_eq] at h ⊢; rw [List.getElem?_append_left (nth?_lt h)]; exact h
theorem More.grown {hp hp' : Hp} (h : More hp hp') : Grown hp hp' := fun id o ho => ⟨o, h id o ho, .inl rfl⟩

section
variable {P : Program} {H : Hints} {call : CallT} {f : FuncId} {tm tm' : Tm} {hp hp' : Hp}

theorem bif_some {α : Type} {c : Bool} {a : Option α} {r : α} (h : (bif c then a else none) = some r) : c = true ∧ a = some r := by cases c <;> simp at h ⊢; exact h
theorem load_grown {t : TypeId} {a v : AV} (hg : Grown hp hp') (h : load P hp t some a = some v) : load P hp' t some a = some v := by
  cases a <;> simp only [load] at h ⊢ <;> first | exact h | skip
  case ptr id off =>
    cases ho : nth? hp id with
    | none => rw [ho] at h; cases h
    | some o =>
      obtain ⟨o', h1, h2⟩ := hg id o ho
      rw [ho] at h
      rcases h2 with rfl | ⟨e, size, els, more, rfl, rfl⟩
      · rw [h1]; exact h
      · cases h
  case pte id i off =>
    cases ho : nth? hp id with
    | none => rw [ho] at h; cases h
    | some o =>
      obtain ⟨o', h1, h2⟩ := hg id o ho
      rw [ho] at h
      rcases h2 with rfl | ⟨e, size, els, more, rfl, rfl⟩
      · rw [h1]; exact h
      · cases h
theorem elemAt_grown {size n : Nat} {els more : List (List AV)} {i : Int} {sz : Nat} {v : AV} (h : elemAt size n els i sz some = some v) : elemAt size n (els ++ more) i sz some = some v := by
  obtain ⟨el, ⟨h1, h2⟩, h3, h4, h5, h6⟩ := elemAt_some h
  subst h1
  cases h6
  have hlt := nth?_lt h5
  simp only [elemAt, h2, h3, h4, decide_true, Bool.and_self, cond_true, nth?_eq, List.getElem?_append_left hlt, h5]
theorem indexA_grown {t : TypeId} {x v : AV} {i : Int} (hg : Grown hp hp') (h : indexA P hp t x i some = some v) : indexA P hp' t x i some = some v := by
  unfold indexA at h ⊢
  cases he : elemOf P t with
  | none => rw [he] at h; exact h
  | some e =>
    rw [he] at h
    cases x <;> simp only at h ⊢ <;> first | exact h | skip
    case row id n =>
      cases ho : nth? hp id with
      | none => rw [ho] at h; cases h
      | some o =>
        obtain ⟨o', h1, h2⟩ := hg id o ho
        rw [ho] at h
        rcases h2 with rfl | ⟨e', size, els, more, rfl, rfl⟩
        · rw [h1]; exact h
        · rw [h1]; exact elemAt_grown h
    case own id off n =>
      cases ho : nth? hp id with
      | none => rw [ho] at h; cases h
      | some o =>
        obtain ⟨o', h1, h2⟩ := hg id o ho
        rw [ho] at h
        rcases h2 with rfl | ⟨e', size, els, more, rfl, rfl⟩
        · rw [h1]; exact h
        · cases h
theorem close1_more {a v : AV} (hg : More hp hp') (h : close1 hp a = some v) : close1 hp' a = some v := by
  cases a <;> simp only [close1] at h ⊢ <;> first | exact h | skip
  case row id n =>
    cases ho : nth? hp id with
    | none => rw [ho] at h; cases h
    | some o => rw [ho] at h; rw [hg id o ho]; exact h
  case func f a b => cases a <;> cases b <;> simp only [close1] at h ⊢ <;> first | exact h | (cases h; done)
theorem closeL_more (hg : More hp hp') : ∀ {l l' : List AV}, closeL hp l = some l' → closeL hp' l = some l'
  | [], l', h => h
  | a :: l, l', h => by
    simp only [closeL] at h ⊢
    cases h1 : close1 hp a with
    | none => rw [h1] at h; cases h
    | some a' =>
      cases h2 : closeL hp l with
      | none => rw [h1, h2] at h; cases h
      | some l2 => rw [h1, h2] at h; rw [close1_more hg h1, closeL_more hg h2]; exact h
theorem close_more {a v : AV} (hg : More hp hp') (h : close hp a = some v) : close hp' a = some v := by
  by_cases ha : ∃ cs, a = .agg cs
  · obtain ⟨cs, rfl⟩ := ha
    simp only [close] at h ⊢
    cases h3 : closeL hp cs with
    | none => rw [h3] at h; cases h
    | some cs' => rw [h3] at h; rw [closeL_more hg h3]; exact h
  · have e1 : ∀ hp : Hp, close hp a = close1 hp a := fun hp => by cases a <;> first | rfl | exact absurd ⟨_, rfl⟩ ha
    rw [e1] at h ⊢
    exact close1_more hg h
theorem closeArgs_more (hg : More hp hp') : ∀ {l l' : List AV}, closeArgs hp l = some l' → closeArgs hp' l = some l'
  | [], l', h => h
  | a :: l, l', h => by
    simp only [closeArgs] at h ⊢
    cases h1 : close hp a with
    | none => rw [h1] at h; cases h
    | some a' =>
      cases h2 : closeArgs hp l with
      | none => rw [h1, h2] at h; cases h
      | some l2 => rw [h1, h2] at h; rw [close_more hg h1, closeArgs_more hg h2]; exact h
theorem closeO1_more {a v : AV} (hg : More hp hp') (h : closeO1 hp a = some v) : closeO1 hp' a = some v := by
  by_cases ha : ∃ id off n, a = .own id off n
  · obtain ⟨id, off, n, rfl⟩ := ha
    simp only [closeO1] at h ⊢
    cases ho : nth? hp id with
    | none => rw [ho] at h; cases h
    | some o => rw [ho] at h; rw [hg id o ho]; exact h
  · have e1 : ∀ hp : Hp, closeO1 hp a = close1 hp a := fun hp => by cases a <;> first | rfl | exact absurd ⟨_, _, _, rfl⟩ ha
    rw [e1] at h ⊢
    exact close1_more hg h
theorem closeOL_more (hg : More hp hp') : ∀ {l l' : List AV}, closeOL hp l = some l' → closeOL hp' l = some l'
  | [], l', h => h
  | a :: l, l', h => by
    simp only [closeOL] at h ⊢
    cases h1 : closeO1 hp a with
    | none => rw [h1] at h; cases h
    | some a' =>
      cases h2 : closeOL hp l with
      | none => rw [h1, h2] at h; cases h
      | some l2 => rw [h1, h2] at h; rw [closeO1_more hg h1, closeOL_more hg h2]; exact h
theorem closeO_more {a v : AV} (hg : More hp hp') (h : closeO hp a = some v) : closeO hp' a = some v := by
  by_cases ha : ∃ cs, a = .agg cs
  · obtain ⟨cs, rfl⟩ := ha
    simp only [closeO] at h ⊢
    cases h3 : closeOL hp cs with
    | none => rw [h3] at h; cases h
    | some cs' => rw [h3] at h; rw [closeOL_more hg h3]; exact h
  · have e1 : ∀ hp : Hp, closeO hp a = closeO1 hp a := fun hp => by cases a <;> first | rfl | exact absurd ⟨_, rfl⟩ ha
    rw [e1] at h ⊢
    exact closeO1_more hg h
theorem closeOArgs_more (hg : More hp hp') : ∀ {l l' : List AV}, closeOArgs hp l = some l' → closeOArgs hp' l = some l'
  | [], l', h => h
  | a :: l, l', h => by
    simp only [closeOArgs] at h ⊢
    cases h1 : closeO hp a with
    | none => rw [h1] at h; cases h
    | some a' =>
      cases h2 : closeOArgs hp l with
      | none => rw [h1, h2] at h; cases h
      | some l2 => rw [h1, h2] at h; rw [closeO_more hg h1, closeOArgs_more hg h2]; exact h
theorem elems_more (hg : More hp hp') {size : Nat} {tys : List TypeId} : ∀ {ps : List (Nat × Operand)} {k : Nat} {els : List (List AV)}, elems P tys hp size tm k ps = some els → elems P tys hp' size tm k ps = some els
  | [], k, els, h => h
  | (i, x) :: rest, k, els, h => by
    simp only [elems] at h ⊢
    split at h
    · rename_i hc
      try rw [hc]
      try simp only
      cases h1 : closeL hp (norms P tys (ev tm x).cells) with
      | none => rw [h1] at h; cases h
      | some c =>
        cases h2 : elems P tys hp size tm (k + 1) rest with
        | none => rw [h1, h2] at h; cases h
        | some l => rw [h1, h2] at h; rw [closeL_more hg h1, elems_more hg h2]; exact h
    · cases h
theorem cutS_more {x v : AV} {sz : Nat} {lo hi : Option AV} (hg : More hp hp') (h : cutS hp x sz lo hi some = some v) : cutS hp' x sz lo hi some = some v := by
  cases x <;> simp only [cutS] at h ⊢ <;> first | exact h | skip
  case row id n =>
    cases ho : nth? hp id with
    | none => rw [ho] at h; cases h
    | some o => rw [ho] at h; rw [hg id o ho]; exact h
  case own id off n =>
    cases ho : nth? hp id with
    | none => rw [ho] at h; cases h
    | some o => rw [ho] at h; rw [hg id o ho]; exact h

theorem stepD_pure {o : Oper} {op : Op} (ho : o.op = op) (hst : ∀ hp, stepD P H call f o tm hp = pureOp P tm hp op fun v => some (v, hp)) {v : AV} {hp1 : Hp} (h : stepD P H call f o tm hp = some (v, hp1)) :
    hp1 = hp ∧ pureOp P tm hp op some = some v ∧ ∀ hp2, pureOp P tm hp2 op some = some v → stepD P H call f o tm hp2 = some (v, hp2) := by
  rw [hst, pure_nat] at h
  cases hv : pureOp P tm hp op some with
  | none => rw [hv] at h; cases h
  | some u =>
    rw [hv] at h
    cases h
    exact ⟨rfl, rfl, fun hp2 h2 => by rw [hst, pure_nat, h2]; rfl⟩

theorem step_P {o : Oper} (hc : cls H f o = .P) {v : AV} {hp1 : Hp} (h : stepD P H call f o tm hp = some (v, hp1)) : hp1 = hp ∧ ∀ hp2, stepD P H call f o tm hp2 = some (v, hp2) := by
  have fin : ∀ op : Op, o.op = op → (∀ hp, stepD P H call f o tm hp = pureOp P tm hp op fun v => some (v, hp)) → (∀ hp2, pureOp P tm hp op some = pureOp P tm hp2 op some) → hp1 = hp ∧ ∀ hp2, stepD P H call f o tm hp2 = some (v, hp2) := fun op ho hst hrfl => by
    obtain ⟨h1, h2, h3⟩ := stepD_pure ho hst h
    exact ⟨h1, fun hp2 => h3 hp2 (by rw [← hrfl hp2]; exact h2)⟩
  unfold cls at hc
  cases ho : o.op <;> rw [ho] at hc <;> simp only at hc <;> first | (cases hc; done) | skip
  case assign x =>
    have hob : objAt H f o.dst = false := by
      cases hob : objAt H f o.dst with
      | false => rfl
      | true => rw [hob] at hc; cases hc
    have hst : ∀ hp, stepD P H call f o tm hp = some (ev tm x, hp) := fun hp => by
      simp only [stepD, stepV, ho, hob]
      split
      · rename_i hx; rw [hx]
      · rfl
    rw [hst] at h; cases h
    exact ⟨rfl, fun hp2 => hst hp2⟩
  case call c =>
    obtain ⟨cal, args, ats⟩ := c
    cases cal with
    | value x => cases x <;> simp only at hc <;> first | (cases hc; done) | skip
                 repeat' split at hc
                 all_goals cases hc
    | invoke _ _ => cases hc
    | builtin b =>
      cases b <;> simp only at hc <;> first | (cases hc; done) | skip
      all_goals exact fin _ ho (fun hp => by simp only [stepD, stepV, ho]) (fun _ => rfl)
  case buildSlice t n ps => split at hc <;> cases hc
  case makeSlice t n c =>
    have hob : objAt H f o.dst = false ∧ arrAt H f o.dst = false := by
      cases h1 : objAt H f o.dst <;> cases h2 : arrAt H f o.dst <;> rw [h1, h2] at hc <;> first | (cases hc; done) | exact ⟨rfl, rfl⟩
    exact fin _ ho (fun hp => by simp only [stepD, stepV, ho, hob.1, hob.2, asOb]) (fun _ => rfl)
  case unOp u t x => cases u <;> exact fin _ ho (fun hp => by simp only [stepD, stepV, ho]) (fun _ => rfl)
  case makeFunc fn x y => cases fn <;> exact fin _ ho (fun hp => by simp only [stepD, stepV, ho]) (fun _ => rfl)
  all_goals exact fin _ ho (fun hp => by simp only [stepD, stepV, ho]) (fun _ => rfl)
theorem step_R {o : Oper} (hc : cls H f o = .R) {v : AV} {hp1 : Hp} (h : stepD P H call f o tm hp = some (v, hp1)) : hp1 = hp ∧ ∀ hp2, Grown hp hp2 → stepD P H call f o tm hp2 = some (v, hp2) := by
  have fin : ∀ op : Op, o.op = op → (∀ hp, stepD P H call f o tm hp = pureOp P tm hp op fun v => some (v, hp)) → (∀ hp2, Grown hp hp2 → pureOp P tm hp op some = some v → pureOp P tm hp2 op some = some v) → hp1 = hp ∧ ∀ hp2, Grown hp hp2 → stepD P H call f o tm hp2 = some (v, hp2) := fun op ho hst hrfl => by
    obtain ⟨h1, h2, h3⟩ := stepD_pure ho hst h
    exact ⟨h1, fun hp2 hg => h3 hp2 (hrfl hp2 hg h2)⟩
  unfold cls at hc
  cases ho : o.op <;> rw [ho] at hc <;> simp only at hc <;> first | (cases hc; done) | skip
  case assign x => split at hc <;> cases hc
  case buildSlice t n ps => split at hc <;> cases hc
  case makeSlice t n c => split at hc <;> cases hc
  case load t a => exact fin _ ho (fun hp => by simp only [stepD, stepV, ho]) (fun hp2 hg h => by simp only [pureOp] at h ⊢; exact load_grown hg h)
  case indexAddr t x y =>
    refine fin _ ho (fun hp => by simp only [stepD, stepV, ho]) (fun hp2 hg h => ?_)
    simp only [pureOp] at h ⊢
    cases hy : ev tm y <;> rw [hy] at h <;> simp only at h ⊢ <;> first | (cases h; done) | exact indexA_grown hg h
  case call c =>
    obtain ⟨cal, args, ats⟩ := c
    cases cal with
    | value x => cases x <;> simp only at hc <;> first | (cases hc; done) | skip
                 repeat' split at hc
                 all_goals cases hc
    | invoke _ _ => cases hc
    | builtin b => cases b <;> simp only at hc <;> cases hc
theorem step_C {o : Oper} (hc : cls H f o = .C) {v : AV} {hp1 : Hp} (h : stepD P H call f o tm hp = some (v, hp1)) : hp1 = hp ∧ ∀ hp2, More hp hp2 → stepD P H call f o tm hp2 = some (v, hp2) := by
  have fin : ∀ op : Op, o.op = op → (∀ hp, stepD P H call f o tm hp = pureOp P tm hp op fun v => some (v, hp)) → (∀ hp2, More hp hp2 → pureOp P tm hp op some = some v → pureOp P tm hp2 op some = some v) → hp1 = hp ∧ ∀ hp2, More hp hp2 → stepD P H call f o tm hp2 = some (v, hp2) := fun op ho hst hrfl => by
    obtain ⟨h1, h2, h3⟩ := stepD_pure ho hst h
    exact ⟨h1, fun hp2 hg => h3 hp2 (hrfl hp2 hg h2)⟩
  unfold cls at hc
  cases ho : o.op <;> rw [ho] at hc <;> simp only at hc <;> first | (cases hc; done) | skip
  case assign x => split at hc <;> cases hc
  case makeSlice t n c => split at hc <;> cases hc
  case buildSlice t n ps =>
    have hob : objAt H f o.dst = false ∧ arrAt H f o.dst = false := by
      cases h1 : objAt H f o.dst <;> cases h2 : arrAt H f o.dst <;> rw [h1, h2] at hc <;> first | (cases hc; done) | exact ⟨rfl, rfl⟩
    refine fin _ ho (fun hp => by simp only [stepD, stepV, ho, hob.1, hob.2, asOb]) (fun hp2 hg h => ?_)
    simp only [pureOp] at h ⊢
    repeat' split at h
    all_goals first | (cases h; done) | skip
    rename_i h1 _ h2 _ h3 _ h4 _ h5
    simp_all [elems_more hg h5]
  case slice t x lo hi mx =>
    refine fin _ ho (fun hp => by simp only [stepD, stepV, ho]) (fun hp2 hg h => ?_)
    cases mx with
    | some _ => simp only [pureOp] at h; cases h
    | none =>
      simp only [pureOp] at h ⊢
      cases hu : P.underlying t with
      | none => rw [hu] at h; cases h
      | some d =>
        rw [hu] at h
        cases d <;> simp only at h ⊢ <;> first | exact h | skip
        rename_i et
        cases hz : decide (0 < P.cellsOf et) with
        | false => rw [hz] at h; cases h
        | true => rw [hz] at h; exact cutS_more hg h
  case call c =>
    obtain ⟨cal, args, ats⟩ := c
    cases cal with
    | value x =>
      cases x <;> simp only at hc <;> first | (cases hc; done) | skip
      rename_i g
      cases hi : H.inl f g with
      | true => rw [hi] at hc; cases hc
      | false =>
        cases had : adoAt H f o.dst with
        | true => rw [hi] at hc; simp only [had] at hc; cases hc
        | false =>
        simp only [stepD, stepV, ho, ev, hi, had] at h ⊢
        cases hg : H.good.contains g with
        | false => rw [hg] at h; cases h
        | true =>
          rw [hg] at h
          simp only at h ⊢
          cases hown : anyOwn ([] ++ normArgs P ats.toList (args.toList.map (ev tm)) ++ []) with
          | false =>
            rw [hown] at h
            simp only at h ⊢
            cases ha : closeArgs hp ([] ++ normArgs P ats.toList (args.toList.map (ev tm)) ++ []) with
            | none => rw [ha] at h; cases h
            | some as =>
                rw [ha] at h
                simp only at h
                have key : ∀ r, call false g as [] = r → hp1 = hp ∧ ∀ hp2, More hp hp2 → (match closeArgs hp2 ([] ++ normArgs P ats.toList (args.toList.map (ev tm)) ++ []) with
                  | some as => match call false g as [] with
                    | some (v, []) => some (v, hp2)
                    | _ => none
                  | none => none) = some (v, hp2) := by
                  intro r hr
                  rw [hr] at h
                  match r, h with
                  | some (u, []), h =>
                    cases h
                    exact ⟨rfl, fun hp2 hm => by rw [closeArgs_more hm ha]; simp only [hr]⟩
                exact key _ rfl
          | true =>
            rw [hown] at h
            simp only at h ⊢
            cases ha : closeOArgs hp ([] ++ normArgs P ats.toList (args.toList.map (ev tm)) ++ []) with
            | none => rw [ha] at h; cases h
            | some as =>
                rw [ha] at h
                simp only at h
                have key : ∀ r, call false g as [] = r → hp1 = hp ∧ ∀ hp2, More hp hp2 → (match closeOArgs hp2 ([] ++ normArgs P ats.toList (args.toList.map (ev tm)) ++ []) with
                  | some as => match call false g as [] with
                    | some (v, []) => match flat v with
                      | true => some (v, hp2)
                      | false => none
                    | _ => none
                  | none => none) = some (v, hp2) := by
                  intro r hr
                  rw [hr] at h
                  match r, h with
                  | some (u, []), h =>
                    cases hfl : flat u with
                    | false => simp only [hfl] at h; cases h
                    | true =>
                      simp only [hfl] at h
                      cases h
                      exact ⟨rfl, fun hp2 hm => by rw [closeOArgs_more hm ha]; simp only [hr, hfl]⟩
                exact key _ rfl
    | invoke _ _ => cases hc
    | builtin b => cases b <;> simp only at hc <;> cases hc
theorem asOb_more {t : TypeId} {b1 b2 : Bool} {u v : AV} {hp1 : Hp} (h : asOb P t b1 b2 hp (fun v hp => some (v, hp)) u = some (v, hp1)) : More hp hp1 := by
  unfold asOb at h
  simp only [forceHp_eq] at h
  repeat' split at h
  all_goals first | (cases h; done) | (cases h; exact More.append _ _) | (cases h; exact fun _ _ h => h)
theorem step_A {o : Oper} (hc : cls H f o = .A) {v : AV} {hp1 : Hp} (h : stepD P H call f o tm hp = some (v, hp1)) : More hp hp1 := by
  unfold cls at hc
  cases ho : o.op <;> rw [ho] at hc <;> simp only at hc <;> first | (cases hc; done) | skip
  case assign x =>
    simp only [stepD, stepV, ho, forceHp_eq] at h
    repeat' split at h
    all_goals first | (cases h; done) | (cases h; exact More.append _ _) | (cases h; exact fun _ _ h => h)
  case alloc t =>
    simp only [stepD, stepV, ho, forceHp_eq] at h
    repeat' split at h
    all_goals first | (cases h; done) | (cases h; exact More.append _ _)
  case buildSlice t n ps =>
    simp only [stepD, stepV, ho] at h
    rw [pure_nat] at h
    cases hv : pureOp P tm hp (.buildSlice t n ps) some with
    | none => rw [hv] at h; cases h
    | some u => rw [hv] at h; exact asOb_more h
  case makeSlice t n c =>
    simp only [stepD, stepV, ho] at h
    rw [pure_nat] at h
    cases hv : pureOp P tm hp (.makeSlice t n c) some with
    | none => rw [hv] at h; cases h
    | some u => rw [hv] at h; exact asOb_more h
  case box t x =>
    simp only [stepD, stepV, ho, forceHp_eq] at h
    repeat' split at h
    all_goals first | (cases h; done) | (cases h; exact More.append _ _)
  case call c =>
    obtain ⟨cal, args, ats⟩ := c
    cases cal with
    | value x =>
      cases x <;> simp only at hc <;> first | (cases hc; done) | skip
      rename_i g
      cases hi : H.inl f g with
      | true => rw [hi] at hc; cases hc
      | false =>
        cases had : adoAt H f o.dst with
        | false => rw [hi] at hc; simp only [had] at hc; cases hc
        | true =>
          simp only [stepD, stepV, ho, ev, hi, had, forceHp_eq] at h
          repeat' split at h
          all_goals first | (cases h; done) | (cases h; exact More.append _ _)
    | invoke _ _ => cases hc
    | builtin b => cases b <;> simp only at hc <;> cases hc
theorem grown_set {id e' size e sz : Nat} {els news : List (List AV)} {c : Bool} {k v : AV} {hp1 : Hp} (hob : nth? hp id = some (.row e' size els)) (hq : (decide (e' = e) && decide (size = sz)) = true) (h : (bif c then some (k, setNth hp id (.row e sz (els ++ news))) else none) = some (v, hp1)) : Grown hp hp1 := by
  obtain ⟨_, h⟩ := bif_some h
  cases h
  simp only [Bool.and_eq_true, decide_eq_true_eq] at hq
  obtain ⟨rfl, rfl⟩ := hq
  intro id' o' ho'
  rw [nth?_eq] at ho' hob
  by_cases hid : id' = id
  · subst hid
    rw [hob] at ho'; cases ho'
    exact ⟨_, by rw [nth?_eq, setNth_eq, List.getElem?_set_self (nth?_lt hob)], .inr ⟨_, _, _, _, rfl, rfl⟩⟩
  · exact ⟨o', by rw [nth?_eq, setNth_eq, List.getElem?_set_ne (Ne.symm hid)]; exact ho', .inl rfl⟩
theorem grown_or {c : Bool} {k k' v : AV} {o : Ob} {hp1 : Hp} (h : (bif c then some (k, hp) else some (k', hp ++ [o])) = some (v, hp1)) : Grown hp hp1 := by
  cases c with
  | true => cases h; exact More.grown fun _ _ h => h
  | false => cases h; exact (More.append _ _).grown
theorem step_G {o : Oper} (hc : cls H f o = .G) {v : AV} {hp1 : Hp} (h : stepD P H call f o tm hp = some (v, hp1)) : Grown hp hp1 := by
  unfold cls at hc
  cases ho : o.op <;> rw [ho] at hc <;> simp only at hc <;> first | (cases hc; done) | skip
  case assign x => split at hc <;> cases hc
  case buildSlice t n ps => split at hc <;> cases hc
  case makeSlice t n c => split at hc <;> cases hc
  case call c =>
    obtain ⟨cal, args, ats⟩ := c
    cases cal with
    | value x => cases x <;> simp only at hc <;> first | (cases hc; done) | skip
                 repeat' split at hc
                 all_goals cases hc
    | invoke _ _ => cases hc
    | builtin b =>
      cases b <;> simp only at hc <;> first | (cases hc; done) | skip
      simp only [stepD, stepV, ho, forceHp_eq] at h
      repeat' split at h
      all_goals first | (cases h; done) | skip
      · obtain ⟨_, h⟩ := bif_some h
        cases h
        exact (More.append _ _).grown
      · obtain ⟨_, h⟩ := bif_some h
        exact grown_or h
      · exact grown_set (by assumption) (by assumption) h

theorem parts_congr {t : TypeId} : ∀ (ps : List (Nat × Operand)) (cs : List AV), (∀ x ∈ ps.map (·.2), ev tm x = ev tm' x) → parts P t tm cs ps = parts P t tm' cs ps
  | [], cs, h => rfl
  | (i, x) :: rest, cs, h => by
    have h1 := h x (by simp)
    have h2 := fun cs => parts_congr (t := t) rest cs fun y hy => h y (by simp only [List.map_cons, List.mem_cons]; exact .inr hy)
    simp only [parts, h1, h2]
theorem elems_congr {size : Nat} {tys : List TypeId} : ∀ (ps : List (Nat × Operand)) (k : Nat), (∀ x ∈ ps.map (·.2), ev tm x = ev tm' x) → elems P tys hp size tm k ps = elems P tys hp size tm' k ps
  | [], k, h => rfl
  | (i, x) :: rest, k, h => by
    have h1 := h x (by simp)
    have h2 := fun k => elems_congr (size := size) (tys := tys) rest k fun y hy => h y (by simp only [List.map_cons, List.mem_cons]; exact .inr hy)
    simp only [elems, h1, h2]
theorem pure_congr {op : Op} {ρ : Type} (K : AV → Option ρ) (h : ∀ x ∈ op.operands, ev tm x = ev tm' x) : pureOp P tm hp op K = pureOp P tm' hp op K := by
  cases op <;> simp only [Op.operands] at h
  case build t ps =>
    have := fun cs => parts_congr (P := P) (t := t) ps.toList cs (fun x hx => h x (by simpa using hx))
    simp only [pureOp, this]
  case buildSlice t n ps =>
    have := fun (tys : List TypeId) (size k : Nat) => elems_congr (P := P) (tys := tys) (hp := hp) (size := size) ps.toList k (fun x hx => h x (by simpa using hx))
    simp only [pureOp, this]
  case makeFunc fn a b =>
    have h1 : a.toList.map (ev tm) = a.toList.map (ev tm') := List.map_congr_left fun x hx => h x (by simp; exact .inl (by simpa using hx))
    have h2 : b.toList.map (ev tm) = b.toList.map (ev tm') := List.map_congr_left fun x hx => h x (by simp; exact .inr (by simpa using hx))
    cases fn <;> simp only [pureOp, h1, h2]
  case slice t x lo hi mx =>
    have hx := h x (by simp)
    have h1 : lo.map (ev tm) = lo.map (ev tm') := by cases lo with | none => rfl | some y => simp [h y (by simp)]
    have h2 : hi.map (ev tm) = hi.map (ev tm') := by cases hi with | none => rfl | some y => simp [h y (by simp)]
    cases mx <;> simp only [pureOp, hx, h1, h2]
  case unOp u t x => cases u <;> simp only [pureOp, h x (by simp)]
  case call c =>
    obtain ⟨cal, args, ats⟩ := c
    have ha : ∀ x ∈ args, ev tm x = ev tm' x := fun x hx => h x (by simp only [Call.operands]; exact Array.mem_append.2 (.inr hx))
    cases cal <;> simp only [pureOp]
    rename_i b
    cases b <;> simp only
    all_goals (obtain ⟨l⟩ := args)
    all_goals
      rcases l with _ | ⟨x, _ | ⟨y, _ | ⟨z, l⟩⟩⟩
    all_goals simp only
    all_goals first
      | rfl
      | (rw [ha x (by simp), ha y (by simp)]; done)
      | (rw [ha x (by simp)]; done)
  all_goals simp_all [pureOp]
theorem step_congr (o : Oper) (h : ∀ x ∈ o.op.operands, ev tm x = ev tm' x) : stepD P H call f o tm hp = stepD P H call f o tm' hp := by
  unfold stepD
  have hp0 := fun K : AV → Option (AV × Hp) => pure_congr (P := P) (hp := hp) K h
  cases ho : o.op <;> rw [ho] at h hp0 <;> simp only [Op.operands] at h <;> simp only [stepV, ho]
  case assign x => rw [h x (by simp)]
  case box t x => rw [h x (by simp)]
  case store t a x => rw [h a (by simp), h x (by simp)]
  case call c =>
    obtain ⟨cal, args, ats⟩ := c
    have ha : ∀ x ∈ args, ev tm x = ev tm' x := fun x hx => h x (by simp only [Call.operands]; exact Array.mem_append.2 (.inr hx))
    have hm : args.toList.map (ev tm) = args.toList.map (ev tm') := List.map_congr_left fun x hx => ha x (by simpa using hx)
    cases cal <;> simp only
    · rename_i fo
      rw [h fo (by simp [Call.operands]), hm]
    · exact hp0 _
    · rename_i b
      cases b <;> simp only
      case append =>
        obtain ⟨l⟩ := args
        rcases l with _ | ⟨x, _ | ⟨y, _ | ⟨z, l⟩⟩⟩ <;> simp only
        rw [ha x (by simp), ha y (by simp)]
      all_goals exact hp0 _
  all_goals first
    | rfl
    | exact hp0 _
end
end Go.Proofs.Ytaocgmkcjemecaa
